/-
 Models of functions, their walks, and plain laws.
-/
import Derived.Test.YtjcfpjpdopfefaaGreatKDnfFewA
namespace Go.Proofs.Tryz
open Go Go.Pm
set_option linter.all false
set_option maxHeartbeats 2000000
set_option maxRecDepth 2000
def Y4(x:(Int×Int×Int×(fj)×Int×Int×Int×Int×Int×(fj)×Int)):Option (((fj)×Int)):=
 match x with
 |(q0,q1,q2,q3,q4,q5,q6,q7,d,e,c)=>
 Ya (q7,d,q0,q1,q2,q3,q4,q5,q6,e,c)>>=λ(f,v2)=>
 some (f,v2)
theorem Wp{q0 q1 q2 q3 q4 q5 q6 q7 q8 q9 q10 v5001 v5002}(hm:Y4 (q0,q1,q2,q3,q4,q5,q6,q7,q8,q9,q10)=some (v5001,v5002)):PC prog env 161 [(.ptr 8 0),(.ptr 1 0),(.ptr 2 0)] (Jb q0 q1 q2 q3 q4 q5 q6 q7 q8 q9 q10 q9.length) (.tup []) (Jb q0 q1 q2 q3 q4 q5 q6 q7 q8 v5001 v5002 q9.length):=by
 unfold Y4 at hm;exact gB (fn:=f161) rfl (ZP (Qe 5 (uy hm λd v2 c hm=>Q5 (WA c) (Q6 ⟨kr,zf⟩))))
def ZK(x:(Int×Int×Int×(fj)×Int×Int×Int×Int×Int×(fj)×Int×Nat)):Option ((Int×Int×Int×Int×Int×Int)):=
 match x with
 |(q0,q1,q2,q3,q4,q5,q6,q7,e,f,c,d)=>
 if q0=3 then
  some (q2,c,q2,c,q2,c)
 else
 some (c,q4,c,q4,c,q4)
theorem UK{q0 q1 q2 q3 q4 q5 q6 q7 q8 q9 q10 q11 v5001 v5002 v5003 v5004 v5005 v5006}(hm:ZK (q0,q1,q2,q3,q4,q5,q6,q7,q8,q9,q10,q11)=some (v5001,v5002,v5003,v5004,v5005,v5006)):PC prog env 193 [(.ptr 8 0)] (Jb q0 q1 q2 q3 q4 q5 q6 q7 q8 q9 q10 q11) (.agg [(Qd q0),(Qd q1),(Qd v5005),(.ms 7 1 0 q11 q11),(Qd v5006),(Qd q5),(Qd q6)]) [(QA q0 q1 q2 q3 q4 q5 q6),(.box [(Qd q7)]),(.box [(Qd q8)]),Zc,(QA q0 q1 q2 q3 q4 q5 q6),Zc,(QA q0 q1 q2 q3 q4 q5 q6),(QG q9),(LF q10 q11 q0 q1 q2 q3 q4 q5 q6),(Lz q0 q1 v5001 q11 v5002 q5 q6),(Lz q0 q1 v5003 q11 v5004 q5 q6)]:=by
 unfold ZK at hm;exact gB (fn:=f193) rfl (ge 1 (ge 6 (ge 7 (Qg (ge 3 (sQ hm (λhm=>gd (re 7 (ge 2 (Qn zf)))) (λhm=>gd (re 7 (ge 2 (Qn zf))))))))))
def Xk(x:(Int×Int×Int×(fj)×Int×Int×Int×Int×Int)):Option (Unit⊕ ((fj)×Int×Nat×Int×Int×Nat×Int×Nat×Int×Int×Nat×Int×Int×Nat×Int)):=
 match x with
 |(q0,q1,q2,q3,q4,q5,q6,q7,e)=>
 if q0=1 then
  some (Sum.inl ())
 else
 YZ (q0,q1,q2,q3,q4,q5,q6,q7,e)>>=λ(c,v2)=>
 Y4 (q0,q1,q2,q3,q4,q5,q6,q7,e,c,v2)>>=λ(f,g)=>
 ZK (q0,q1,q2,q3,q4,q5,q6,q7,e,f,g,c.length)>>=λ(k,l,m,n,j,d)=>
 some (Sum.inr (f,j,c.length,d,g,c.length,k,c.length,l,m,c.length,n,j,c.length,d))
theorem TY{q0 q1 q2 q3 q4 q5 q6 q7 q8 r}(hm:Xk (q0,q1,q2,q3,q4,q5,q6,q7,q8)=some r):PC prog env 156 [(JX q0 q1 q2 q3 q4 q5 q6),(.fn 161 [(.ptr 1 0),(.ptr 2 0)])] [(QA q0 q1 q2 q3 q4 q5 q6),(.box [(Qd q7)]),(.box [(Qd q8)]),Zc] (match r with|.inl _=>(JX q0 q1 q2 q3 q4 q5 q6)|.inr ((d,e,f,g,j,k,l,m,n,p,q,s,t,c,u))=>(.agg [(Qd q0),(Qd q1),(Qd t),(.ms 7 1 0 c c),(Qd u),(Qd q5),(Qd q6)])) (match r with|.inl _=>(TJ q0 q1 q2 q3 q4 q5 q6 q7 q8)|.inr ((d,e,f,g,j,k,l,m,n,p,q,s,t,c,u))=>[(QA q0 q1 q2 q3 q4 q5 q6),(.box [(Qd q7)]),(.box [(Qd q8)]),Zc,(QA q0 q1 q2 q3 q4 q5 q6),(Lz q0 q1 e f g q5 q6),(QA q0 q1 q2 q3 q4 q5 q6),(QG d),(LF j k q0 q1 q2 q3 q4 q5 q6),(Lz q0 q1 l m n q5 q6),(Lz q0 q1 p q s q5 q6)]):=by
 unfold Xk at hm;exact gB (fn:=f156) rfl (ge 2 (Qg (ge 3 (sQ hm (λhm=>ge 2 (Qn zf)) (λhm=>Qr (gr 1 (uy hm λx v2 v hm=>Q5 (Ud v) (re 1 (gr 2 (uy hm λy z v hm=>Q5 (Wp v) (Q6 (gr 1 (PW hm λA B C D E w v hm=>Q5 (UK v) (re 1 (Qn zf)))))))))))))))
def JJ(x:(Qh×Int×Int)):Option Qh:=
 match x with
 |(p0,p1,g)=>
 (
 Xk (p0.kind,p0.buffer,p0.base,p0.strides,p0.start,p0.step,p0.mod,p1,g)>>=λout=>
 match out with
 | .inl _=>
  some p0
 | .inr ((f,v2,m,n,p,q,r,s,t,j,k,l,c,d,e))=>
  QR (f.length=d)>>=λ_=>
  some (⟨p0.kind,p0.buffer,c,f,e,p0.step,p0.mod⟩:Qh)
 )
theorem Wa{p0 p1 p2 r0}(hm:JJ (p0,p1,p2)=some r0):FQ 118 [(Qh.toD p0),(Qf p1),(Qf p2)] (.dat (Qh.toD r0)):=by
 unfold JJ at hm;exact fp (fn:=f118) rfl (ge 4 (gr 2 (bs hm (λ_ f hm=>Q5 (TY f) (re 1 (Qn zf))) λ⟨k,v2,p,q,r,s,t,u,v,l,m,n,g,c,j⟩ f hm=>Q5 (TY f) (re 1 (Qn (gi hm λd hm=>(by obtain rfl:=xt hm;exact⟨trivial,JI [(.agg [(Qd p0.kind),(Qd p0.buffer),(Qd g),(.ms 7 1 0 c c),(Qd j),(Qd p0.step),(Qd p0.mod)])] kr (tC (fK kr (fK kr (fK kr (fK (kG (e:=3) Qf k d yB kr) (fK kr (fK kr (fK kr mT))))))))⟩)))))))
def Xq(x:(Int×Int×Int×(fj)×(fj)×Int×Int×Int×(fj)×Int×Int×Int×(fj)×(fj)×Nat)):Option (Unit):=
 match x with
 |(q0,q1,q2,q3,q4,q5,q6,q7,j,k,c,d,e,f,g)=>
 some ()
theorem UX{q0 q1 q2 q3 q4 q5 q6 q7 q8 q9 q10 q11 q12 q13 q14}(hm:Xq (q0,q1,q2,q3,q4,q5,q6,q7,q8,q9,q10,q11,q12,q13,q14)=some ()):PC prog env 117 [(Qd q0),(Qd q1),(.iptr [(Qf q2)])] [(.tok 62 q14),(Zv q3 q4 q5 q6 q7 q8 q9 q10 q11),(Zv q3 q4 q5 q6 q7 q8 q9 q10 q11),NK,(QG q12),(QG q13),(Pe q12.length q13.length)] (.tup [(Qd (W (q2 - q1))),(Qd (W (q2 - q0)))]) [(.tok 62 q14),(Zv q3 q4 q5 q6 q7 q8 q9 q10 q11),(Zv q3 q4 q5 q6 q7 q8 q9 q10 q11),NK,(QG q12),(QG q13),(Pe q12.length q13.length)]:=by
 unfold Xq at hm;exact gB (fn:=f117) rfl (ge 2 (Qg (ZP (re 8 ⟨kr,Qn zf⟩))))
def XM(x:((fj)×(fj)×Int×Int×Int×(fj)×Int×Int×Int×Int×Int×Int×Int×Int×(fj)×Int×Int×Int×Nat)):Option (((fj)×(fj)×Nat×Nat×(fj)×(fj))):=
 match x with
 |(q0,q1,q2,q3,q4,q5,q6,q7,m,c,d,n,p,q,r,s,t,u,g)=>
 Qu q0>>=λe=>
 Qu q1>>=λv2=>
 idx e c>>=λv=>
 idx e c>>=λk=>
 idx v2 c>>=λw=>
 idx v2 c>>=λl=>
 Xq (k,l,d,q0,q1,q2,q3,q4,q5,q6,q7,m,e,v2,g)>>=λ_=>
 idx e c>>=λy=>
 iL e c (W (d - l))>>=λj=>
 idx v2 c>>=λz=>
 iL v2 c (W (d - k))>>=λf=>
 QR (j.length=e.length)>>=λ_=>
 QR (f.length=v2.length)>>=λ_=>
 some (j,f,e.length,v2.length,j,f)
theorem WI{q0 q1 q2 q3 q4 q5 q6 q7 q8 q9 q10 q11 q12 q13 q14 q15 q16 q17 q18 v5001 v5002 v5003 v5004 v5005 v5006}(hm:XM (q0,q1,q2,q3,q4,q5,q6,q7,q8,q9,q10,q11,q12,q13,q14,q15,q16,q17,q18)=some (v5001,v5002,v5003,v5004,v5005,v5006)):PC prog env 116 [(OP q0 q1 q2 q3 q4 q5 q6 q7 q8),(Qd q9),(.fn 117 [(.iptr [(Qf q10)])]),(JX q11 q12 q13 q14 q15 q16 q17)] [(.tok 62 q18),(Zv q0 q1 q2 q3 q4 q5 q6 q7 q8)] (OP v5005 v5006 q11 q12 q13 q14 q15 q16 q17) [(.tok 62 q18),(Zv q0 q1 q2 q3 q4 q5 q6 q7 q8),(Zv q0 q1 q2 q3 q4 q5 q6 q7 q8),(Zv v5001 v5002 q11 q12 q13 q14 q15 q16 q17),PE,PE,(Pe v5003 v5004)]:=by
 unfold XM at hm
 exact gB (fn:=f116) rfl (ge 3 (Qg (ZP (Qe 3 (bi hm λd c hm=>go 4 3 Qf (Qz c) (Qe 3 (bi hm λv2 c hm=>go 5 3 Qf (Qz c) (re 3 ⟨kr,Qg (ZP (Qe 10 (bi hm λu c hm=>QB rfl (λ_=>Q9 (e:=3) (n:=q9) (j:=(q9).toNat) (tt:=4) (g:=1) (lo:=0) (len:=d.length) (cap:=d.length) (k:=.i64) kr kr rfl kr kr (gx c) (zA (gV c) rfl)) (bi hm λr c hm=>QB rfl (λ_=>Xv (tt:=4) (g:=1) (j:=(0+(q9).toNat)) (e:=3) (cs:=cellsOf Qf d) (v:=.dat (Qf r)) kr kr rfl kr (ZN kr) (gK Qf c)) (Qe 3 (bi hm λw c hm=>QB rfl (λ_=>Q9 (e:=3) (n:=q9) (j:=(q9).toNat) (tt:=5) (g:=1) (lo:=0) (len:=v2.length) (cap:=v2.length) (k:=.i64) kr kr rfl kr kr (gx c) (zA (gV c) rfl)) (bi hm λs c hm=>QB rfl (λ_=>Xv (tt:=5) (g:=1) (j:=(0+(q9).toNat)) (e:=3) (cs:=cellsOf Qf v2) (v:=.dat (Qf s)) kr kr rfl kr (ZN kr) (gK Qf c)) (bi hm λ_ c hm=>TT (f:=117) (caps:=[(.iptr [(Qf q10)])]) (j:=6000) (e:=3) (ow':=[]) (UX c) (Qe 3 (bi hm λx c hm=>QB rfl (λ_=>Q9 (e:=3) (n:=q9) (j:=(q9).toNat) (tt:=4) (g:=1) (lo:=0) (len:=d.length) (cap:=d.length) (k:=.i64) kr kr rfl kr kr (gx c) (zA (gV c) rfl)) (bi hm λt c hm=>Zz (λH=>H.set 4 (QG t)) rfl kr (λ_=>D1 Qf (l:=d) (n:=q9) (y:=(W (q10 - s))) c yB kr rfl kr kr kr kr) (bi hm λz c hm=>QB rfl (λ_=>Q9 (e:=3) (n:=q9) (j:=(q9).toNat) (tt:=5) (g:=1) (lo:=0) (len:=v2.length) (cap:=v2.length) (k:=.i64) kr kr rfl kr kr (gx c) (zA (gV c) rfl)) (bi hm λm c hm=>Zz (λH=>H.set 5 (QG m)) rfl kr (λ_=>D1 Qf (l:=v2) (n:=q9) (y:=(W (q10 - r))) c yB kr rfl kr kr kr kr) (Q6 ⟨kr,Qg (gd (gi hm λp hm=>gi hm λq hm=>Zz (v:=(.dat (.agg [(Lb t),(Lb m)]))) (λH=>((H.set 4 (.mt 3 (1+1) [])).set 5 (.mt 3 (1+1) []))) rfl kr (λ_=>R7 (n:=2) (i:=6) (off:=0) (bs:=[(.ms 4 1 0 d.length d.length),(.ms 5 1 0 v2.length v2.length)]) (cs:=[(.ms 4 1 0 d.length d.length),(.ms 5 1 0 v2.length v2.length)]) rfl rfl kr kr kr kr kr rfl (uk Qf yB kr p (uk Qf yB kr q zm))) (re 3 (Qn zf))))⟩)))))) rfl rfl kr kr kr kr kr))))))))⟩))))))))
def ZA(x:((List Qa)×Int×Int×(List Qa)×Int)):Option ((List Qa)):=
 match x with
 |(p0,p1,l,e,f)=>
 if f<(p0.length:Int)then
  idx p0 f>>=λc=>
  JJ (c.access,p1,l)>>=λd=>
  XM (c.box.lo,c.box.hi,c.access.kind,c.access.buffer,c.access.base,c.access.strides,c.access.start,c.access.step,c.access.mod,p1,l,d.kind,d.buffer,d.base,d.strides,d.start,d.step,d.mod,e.length)>>=λ(m,n,p,q,g,j)=>
  app 120 e ([(⟨(⟨g,j⟩:Ql),d⟩:Qa)]:List Qa)>>=λk=>
  ZA (p0,p1,l,k,(W (f+1)))
 else
 some e
 partial_fixpoint
theorem Tc:∀x r,ZA x=some r->match x with|(p0,p1,n,c,e)=>LQ f70 70 [1,1,0,1,0,0] 1 ⟨kp 31 [(1,(Qd p1)),(5,(.iptr [(Qf n)])),(7,(Xw c)),(10,(QX p0)),(11,(Qd (p0.length:Int))),(12,(Qd e))],[(.tok 62 c.length)]⟩ (P1 (.exit 0) (λf d=>⟨sl d 31 [(7,(Xw f))],[(.tok 62 f.length)]⟩) r):=by
 refine ZA.partial_correctness _ (λZA Tc x r hm=>?_);obtain⟨p0,p1,n,c,e⟩:=x;exact lp (ge 1 (Qg (ri hm (λhm=>Qr (Qg (Qo (Qg (gd (QY 9 Qa.toD hm λp hm=>re 3 (ZP (Qe 8 (bi hm λg l hm=>cp (Wa l) (PW hm λq s t u j k l hm=>Q5 (WI l) (Qe 1 (bi hm λm l hm=>Jh 62 9 120 0 Qa.toD c ([(⟨(⟨j,k⟩:Ql),g⟩:Qa)]:List Qa) m (xs:=(List.map Qa.toD) c) (es:=(List.map Qa.toD) ([(⟨(⟨j,k⟩:Ql),g⟩:Qa)]:List Qa)) (L:=(List.map Qa.toD)) yB rfl rfl Qa.fit l (re 1 ⟨kr,gd (re 2 (Tc _ _ hm _ kr))⟩))))))))))))) (λhm=>QO zf))))
def JF(x:((List Qa)×Int×Int)):Option (List Qa):=
 match x with
 |(p0,p1,e)=>
 ZA (p0,p1,e,([]:List Qa),0)>>=λc=>
 Zq c>>=λd=>
 some d
theorem Wz{p0 p1 p2 r0}(hm:JF (p0,p1,p2)=some r0):FQ 70 [(.lst ((List.map Qa.toD) p0)),(Qf p1),(Qf p2)] (QX r0):=by
 unfold JF at hm;exact fp (fn:=f70) rfl (ge 2 (ge 1 (Qg (gr 1 (QZ Qa.toD p0 (re 1 (Qo (nA hm (Tc _) λc d hm=>gr 1 (bi hm λe f hm=>cp (XN f) (re 1 (Qn zf)))))))))))
def Jq(x:(Qj×(List (List Qa)))):Option (List Qa):=
 match x with
 |(p0,p1)=>
 idx p1 0>>=λc=>
 idx p0.shape p0.axis>>=λv2=>
 JF (c,p0.axis,v2)>>=λd=>
 some d
theorem V8{p0 p1 r0}(hm:Jq (p0,p1)=some r0):FQ 69 [(Qj.ex p0),(.lst ((List.map (λl=>fy.lst ((List.map Qa.toD) l))) p1))] (QX r0):=by
 unfold Jq at hm;exact fp (fn:=f69) rfl (ge 2 (Qg (ZP (Qe 1 (bi hm λe c hm=>Ji 1 (λl=>fy.lst ((List.map Qa.toD) l)) p1 0 e (es:=(List.map (λl=>fy.lst ((List.map Qa.toD) l))) p1) (d:=(.lst ((List.map Qa.toD) e))) rfl c rfl rfl (Qe 7 (QY 1 Qf hm λv2 hm=>Qe 1 (bi hm λf c hm=>cp (Wz c) (re 1 ⟨kr,Qn zf⟩)))))))))
def XO(x:(Int×Int×Int×Int×Int×(fj)×(fj)×Int×Int×Int×(fj)×Int×Int×Int×(fj)×(fj))):Option (Unit):=
 match x with
 |(q0,q1,q2,q3,q4,q5,q6,q7,k,l,c,d,e,f,g,j)=>
 some ()
theorem Wg{q0 q1 q2 q3 q4 q5 q6 q7 q8 q9 q10 q11 q12 q13 q14 q15}(hm:XO (q0,q1,q2,q3,q4,q5,q6,q7,q8,q9,q10,q11,q12,q13,q14,q15)=some ()):PC prog env 163 [(Qd q0),(Qd q1),(.iptr [(Qf q2)]),(.iptr [(Qf q3)]),(.iptr [(Qf q4)])] [(Zv q5 q6 q7 q8 q9 q10 q11 q12 q13),NK,(Zv q5 q6 q7 q8 q9 q10 q11 q12 q13),NK,(QG q14),(QG q15),(Pe q14.length q15.length)] (.tup [(Qd (W ((if q3<(if q0<q2 then q2 else q0)then q3 else(if q0<q2 then q2 else q0))+q4))),(Qd (W ((if(if q3<(if q0<q2 then q2 else q0)then q3 else(if q0<q2 then q2 else q0))<(if q3<q1 then q3 else q1)then(if q3<q1 then q3 else q1)else(if q3<(if q0<q2 then q2 else q0)then q3 else(if q0<q2 then q2 else q0)))+q4)))]) [(Zv q5 q6 q7 q8 q9 q10 q11 q12 q13),NK,(Zv q5 q6 q7 q8 q9 q10 q11 q12 q13),NK,(QG q14),(QG q15),(Pe q14.length q15.length)]:=by
 unfold XO at hm;exact gB (fn:=f163) rfl (ge 2 (gr 2 (QB rfl (λ_=>NB (k:=.i64) (m:=q0) (n:=q2) rfl kr kr) (Qe 1 (QB rfl (λ_=>MS (k:=.i64) (m:=(if q0<q2 then q2 else q0)) (n:=q3) rfl kr kr) (re 1 (Qg (ZP (Qe 6 (QB rfl (λ_=>MS (k:=.i64) (m:=q1) (n:=q3) rfl kr kr) (QB rfl (λ_=>NB (k:=.i64) (m:=(if q3<(if q0<q2 then q2 else q0)then q3 else(if q0<q2 then q2 else q0))) (n:=(if q3<q1 then q3 else q1)) rfl kr kr) (re 4 ⟨kr,Qn zf⟩))))))))))))
def Jw(x:((fj)×(fj)×Int×Int×Int×(fj)×Int×Int×Int×Int×Int×Int×Int×Int×Int×Int×(fj)×Int×Int×Int)):Option (((fj)×(fj)×Nat×Nat×(fj)×(fj))):=
 match x with
 |(q0,q1,q2,q3,q4,q5,q6,q7,n,f,c,d,g,p,q,r,s,t,u,v)=>
 Qu q0>>=λj=>
 Qu q1>>=λv2=>
 idx j f>>=λw=>
 idx j f>>=λe=>
 idx v2 f>>=λy=>
 idx v2 f>>=λl=>
 XO (e,l,c,d,g,q0,q1,q2,q3,q4,q5,q6,q7,n,j,v2)>>=λ_=>
 idx j f>>=λz=>
 iL j f (W ((if d<(if e<c then c else e)then d else(if e<c then c else e))+g))>>=λm=>
 idx v2 f>>=λA=>
 iL v2 f (W ((if(if d<(if e<c then c else e)then d else(if e<c then c else e))<(if d<l then d else l)then(if d<l then d else l)else(if d<(if e<c then c else e)then d else(if e<c then c else e)))+g))>>=λk=>
 QR (m.length=j.length)>>=λ_=>
 QR (k.length=v2.length)>>=λ_=>
 some (m,k,j.length,v2.length,m,k)
theorem V3{q0 q1 q2 q3 q4 q5 q6 q7 q8 q9 q10 q11 q12 q13 q14 q15 q16 q17 q18 q19 v5001 v5002 v5003 v5004 v5005 v5006}(hm:Jw (q0,q1,q2,q3,q4,q5,q6,q7,q8,q9,q10,q11,q12,q13,q14,q15,q16,q17,q18,q19)=some (v5001,v5002,v5003,v5004,v5005,v5006)):PC prog env 116 [(OP q0 q1 q2 q3 q4 q5 q6 q7 q8),(Qd q9),(.fn 163 [(.iptr [(Qf q10)]),(.iptr [(Qf q11)]),(.iptr [(Qf q12)])]),(JX q13 q14 q15 q16 q17 q18 q19)] [(Zv q0 q1 q2 q3 q4 q5 q6 q7 q8),NK] (OP v5005 v5006 q13 q14 q15 q16 q17 q18 q19) [(Zv q0 q1 q2 q3 q4 q5 q6 q7 q8),NK,(Zv q0 q1 q2 q3 q4 q5 q6 q7 q8),(Zv v5001 v5002 q13 q14 q15 q16 q17 q18 q19),PE,PE,(Pe v5003 v5004)]:=by
 unfold Jw at hm
 exact gB (fn:=f116) rfl (ge 3 (Qg (ZP (Qe 3 (bi hm λm c hm=>go 4 3 Qf (Qz c) (Qe 3 (bi hm λv2 c hm=>go 5 3 Qf (Qz c) (re 3 ⟨kr,Qg (ZP (Qe 10 (bi hm λu c hm=>QB rfl (λ_=>Q9 (e:=3) (n:=q9) (j:=(q9).toNat) (tt:=4) (g:=1) (lo:=0) (len:=m.length) (cap:=m.length) (k:=.i64) kr kr rfl kr kr (gx c) (zA (gV c) rfl)) (bi hm λd c hm=>QB rfl (λ_=>Xv (tt:=4) (g:=1) (j:=(0+(q9).toNat)) (e:=3) (cs:=cellsOf Qf m) (v:=.dat (Qf d)) kr kr rfl kr (ZN kr) (gK Qf c)) (Qe 3 (bi hm λw c hm=>QB rfl (λ_=>Q9 (e:=3) (n:=q9) (j:=(q9).toNat) (tt:=5) (g:=1) (lo:=0) (len:=v2.length) (cap:=v2.length) (k:=.i64) kr kr rfl kr kr (gx c) (zA (gV c) rfl)) (bi hm λp c hm=>QB rfl (λ_=>Xv (tt:=5) (g:=1) (j:=(0+(q9).toNat)) (e:=3) (cs:=cellsOf Qf v2) (v:=.dat (Qf p)) kr kr rfl kr (ZN kr) (gK Qf c)) (bi hm λ_ c hm=>TT (f:=163) (caps:=[(.iptr [(Qf q10)]),(.iptr [(Qf q11)]),(.iptr [(Qf q12)])]) (j:=6000) (e:=3) (ow':=[]) (Wg c) (Qe 3 (bi hm λx c hm=>QB rfl (λ_=>Q9 (e:=3) (n:=q9) (j:=(q9).toNat) (tt:=4) (g:=1) (lo:=0) (len:=m.length) (cap:=m.length) (k:=.i64) kr kr rfl kr kr (gx c) (zA (gV c) rfl)) (bi hm λt c hm=>Zz (λH=>H.set 4 (QG t)) rfl kr (λ_=>D1 Qf (l:=m) (n:=q9) (y:=(W ((if q11<(if d<q10 then q10 else d)then q11 else(if d<q10 then q10 else d))+q12))) c yB kr rfl kr kr kr kr) (bi hm λz c hm=>QB rfl (λ_=>Q9 (e:=3) (n:=q9) (j:=(q9).toNat) (tt:=5) (g:=1) (lo:=0) (len:=v2.length) (cap:=v2.length) (k:=.i64) kr kr rfl kr kr (gx c) (zA (gV c) rfl)) (bi hm λq c hm=>Zz (λH=>H.set 5 (QG q)) rfl kr (λ_=>D1 Qf (l:=v2) (n:=q9) (y:=(W ((if(if q11<(if d<q10 then q10 else d)then q11 else(if d<q10 then q10 else d))<(if q11<p then q11 else p)then(if q11<p then q11 else p)else(if q11<(if d<q10 then q10 else d)then q11 else(if d<q10 then q10 else d)))+q12))) c yB kr rfl kr kr kr kr) (Q6 ⟨kr,Qg (gd (gi hm λr hm=>gi hm λs hm=>Zz (v:=(.dat (.agg [(Lb t),(Lb q)]))) (λH=>((H.set 4 (.mt 3 (1+1) [])).set 5 (.mt 3 (1+1) []))) rfl kr (λ_=>R7 (n:=2) (i:=6) (off:=0) (bs:=[(.ms 4 1 0 m.length m.length),(.ms 5 1 0 v2.length v2.length)]) (cs:=[(.ms 4 1 0 m.length m.length),(.ms 5 1 0 v2.length v2.length)]) rfl rfl kr kr kr kr kr rfl (uk Qf yB kr r (uk Qf yB kr s zm))) (re 3 (Qn zf))))⟩)))))) rfl rfl kr kr kr kr kr))))))))⟩))))))))
def XD(x:(Qa×Int×Int×Int×Int)):Option Qa:=
 match x with
 |(p0,p1,e,f,d)=>
 Xh (p0.access,p1,(W (0 - d)))>>=λc=>
 Jw (p0.box.lo,p0.box.hi,p0.access.kind,p0.access.buffer,p0.access.base,p0.access.strides,p0.access.start,p0.access.step,p0.access.mod,p1,e,f,d,c.kind,c.buffer,c.base,c.strides,c.start,c.step,c.mod)>>=λ(v2,k,l,m,g,j)=>
 some (⟨(⟨g,j⟩:Ql),(⟨c.kind,c.buffer,c.base,c.strides,c.start,c.step,c.mod⟩:Qh)⟩:Qa)
theorem RR{p0 p1 p2 p3 p4 r0}(hm:XD (p0,p1,p2,p3,p4)=some r0):FQ 119 [(Qa.toD p0),(Qf p1),(Qf p2),(Qf p3),(Qf p4)] (.dat (Qa.toD r0)):=by
 unfold XD at hm;exact fp (fn:=f119) rfl (ge 5 (ge 2 (Qg (ZP (Qe 8 (bi hm λd c hm=>cp (TN c) (PW hm λv2 e f g j k c hm=>Q5 (V3 c) (re 1 ⟨kr,Qn zf⟩))))))))
def Z5(x:((List Qa)×Int×Int×Int×(List Qa)×Int)):Option ((List Qa)):=
 match x with
 |(p0,p1,f,l,d,c)=>
 if c<(p0.length:Int)then
  idx p0 c>>=λe=>
  XD (e,p1,f,l,(W (0 - f)))>>=λg=>
  XD (e,p1,0,f,(W (l - f)))>>=λj=>
  app 120 d ([g,j]:List Qa)>>=λk=>
  Z5 (p0,p1,f,l,k,(W (c+1)))
 else
 some d
 partial_fixpoint
theorem Tm:∀x r,Z5 x=some r->match x with|(p0,p1,m,n,c,e)=>LQ f72 72 [1,1,0,1,0,0] 1 ⟨kp 38 [(1,(Qd p1)),(2,(Qd m)),(3,(Qd n)),(9,(Xw c)),(12,(QX p0)),(13,(Qd (p0.length:Int))),(14,(Qd e))],[(.tok 62 c.length)]⟩ (P1 (.exit 0) (λf d=>⟨sl d 38 [(9,(Xw f))],[(.tok 62 f.length)]⟩) r):=by
 refine Z5.partial_correctness _ (λZ5 Tm x r hm=>?_);obtain⟨p0,p1,m,n,c,e⟩:=x;exact lp (ge 1 (Qg (ri hm (λhm=>Qr (Qg (Qo (Qg (gd (QY 9 Qa.toD hm λp hm=>re 3 (ZP (Qe 7 (bi hm λg k hm=>cp (RR k) (Qe 6 (bi hm λj k hm=>cp (RR k) (Qe 1 (bi hm λl k hm=>Jh 62 9 120 0 Qa.toD c ([g,j]:List Qa) l (xs:=(List.map Qa.toD) c) (es:=(List.map Qa.toD) ([g,j]:List Qa)) (L:=(List.map Qa.toD)) yB rfl rfl Qa.fit k (re 1 ⟨kr,gd (re 2 (Tm _ _ hm _ kr))⟩)))))))))))))) (λhm=>QO zf))))
def J1(x:((List Qa)×Int×Int×Int)):Option (List Qa):=
 match x with
 |(p0,p1,e,f)=>
 Z5 (p0,p1,e,f,([]:List Qa),0)>>=λc=>
 Zq c>>=λd=>
 some d
theorem VF{p0 p1 p2 p3 r0}(hm:J1 (p0,p1,p2,p3)=some r0):FQ 72 [(.lst ((List.map Qa.toD) p0)),(Qf p1),(Qf p2),(Qf p3)] (QX r0):=by
 unfold J1 at hm;exact fp (fn:=f72) rfl (ge 1 (ge 1 (Qg (gr 1 (QZ Qa.toD p0 (re 1 (Qo (nA hm (Tm _) λc d hm=>gr 1 (bi hm λe f hm=>cp (XN f) (re 1 (Qn zf)))))))))))
def Jr(x:(Qj×(List (List Qa)))):Option (List Qa):=
 match x with
 |(p0,p1)=>
 idx p1 0>>=λc=>
 idx p0.shape p0.axis>>=λv2=>
 J1 (c,p0.axis,p0.amount,v2)>>=λd=>
 some d
theorem U4{p0 p1 r0}(hm:Jr (p0,p1)=some r0):FQ 71 [(Qj.ex p0),(.lst ((List.map (λl=>fy.lst ((List.map Qa.toD) l))) p1))] (QX r0):=by
 unfold Jr at hm;exact fp (fn:=f71) rfl (ge 2 (Qg (ZP (Qe 1 (bi hm λe c hm=>Ji 1 (λl=>fy.lst ((List.map Qa.toD) l)) p1 0 e (es:=(List.map (λl=>fy.lst ((List.map Qa.toD) l))) p1) (d:=(.lst ((List.map Qa.toD) e))) rfl c rfl rfl (Qe 9 (QY 1 Qf hm λv2 hm=>Qe 1 (bi hm λf c hm=>cp (VF c) (re 1 ⟨kr,Qn zf⟩)))))))))
def X9(x:(Int×Int×Int×(fj)×Int×Int×Int×(fj)×Int)):Option (((fj)×Int)):=
 match x with
 |(q0,q1,q2,q3,q4,q5,q6,q7,d)=>
 Qu q3>>=λc=>
 if q0=3 then
  some (c,q4)
 else
 some (c,q2)
theorem Wk{q0 q1 q2 q3 q4 q5 q6 q7 q8 v5001 v5002}(hm:X9 (q0,q1,q2,q3,q4,q5,q6,q7,q8)=some (v5001,v5002)):PC prog env 192 [(JX q0 q1 q2 q3 q4 q5 q6)] [(QA q0 q1 q2 q3 q4 q5 q6),(.box [(La q7)]),(.box [(Qd q8)]),Zc,(QA q0 q1 q2 q3 q4 q5 q6),Zc] (.ptr 8 0) (Tu q0 q1 q2 q3 q4 q5 q6 q7 q8 v5001 v5002 v5001.length):=by
 unfold X9 at hm;exact gB (fn:=f192) rfl (ge 2 (Qg (ZP (Qe 4 (bi hm λd c hm=>go 7 3 Qf (Qz c) (re 5 ⟨kr,Qg (ge 3 (sQ hm (λhm=>gd (re 7 (ge 2 (Qn zf)))) (λhm=>Qr (ge 2 (Qn zf)))))⟩))))))
def Yt(x:((fj)×Int×Int)):Option (Int):=
 match x with
 |(p0,d,c)=>
 if c<(p0.length:Int)then
  idx p0 c>>=λe=>
  Yt (p0,(W (d+e)),(W (c+1)))
 else
 some d
 partial_fixpoint
theorem SO:∀x r,Yt x=some r->match x with|(p0,c,e)=>LQ f196 196 [1,1,0,1,0,0] 0 ⟨kp 17 [(3,(Qd c)),(6,(La p0)),(7,(Qd (p0.length:Int))),(8,(Qd e))],[]⟩ (P1 (.exit 0) (λf d=>⟨sl d 17 [(3,(Qd f))],[]⟩) r):=by
 refine Yt.partial_correctness _ (λYt SO x r hm=>?_);obtain⟨p0,c,e⟩:=x;exact lp (ge 1 (Qg (ri hm (λhm=>Qr (Qg (Qo (Qg (gd (QY 1 Qf hm λg hm=>re 2 (gd (re 4 (gd (re 2 (SO _ _ hm _ kr))))))))))) (λhm=>QO zf))))
def JZ(x:(fj)):Option Int:=
 match x with
 |p0=>
 Yt (p0,0,0)>>=λc=>
 some c
theorem Vo{p0 r0}(hm:JZ p0=some r0):FQ 196 [(Lb p0)] (Qd r0):=by
 unfold JZ at hm;exact fp (fn:=f196) rfl (ge 1 (ge 1 (Qg (gr 1 (QZ Qf p0 (re 1 (Qo (nA hm (SO _) λc d hm=>ge 2 (Qn zf)))))))))
def QS(x:((fj)×(fj)×(fj)×Int×Int×Int×(fj)×Int×Int×Int×Int×Int×(fj)×Int)):Option ((fj)):=
 match x with
 |(q0,l,m,q2,q3,q4,q5,q6,q7,s,q1,n,c,d)=>
 if d<(q0.length:Int)then
  idx q0 d>>=λe=>
  QR (c.length=l.length)>>=λ_=>
  idx c e>>=λp=>
  idx c e>>=λf=>
  idx m d>>=λq=>
  idx m d>>=λg=>
  JZ ([f,g]:fj)>>=λj=>
  QR (c.length=l.length)>>=λ_=>
  idx c e>>=λr=>
  iL c e j>>=λk=>
  QS (q0,l,m,q2,q3,q4,q5,q6,q7,s,q1,n,k,(W (d+1)))
 else
 some c
 partial_fixpoint
theorem YY:∀x r,QS x=some r->match x with|(q0,f,t,q2,q3,q4,q5,q6,q7,s,q1,u,q,m)=>LQ f165 165 [1,0,1,0,0] 10 ⟨kp 39 [(0,(.ptr 8 0)),(6,(.ms 9 (mg f) 0 f.length f.length)),(11,(La q0)),(12,(Qd (q0.length:Int))),(13,(Qd m))],[(QA q2 q3 q4 q5 q6 q7 s),(.box [(La q0)]),(.box [(Qd q1)]),Zc,(QA q2 q3 q4 q5 q6 q7 s),Zc,(QA q2 q3 q4 q5 q6 q7 s),(QG t),(LF u t.length q2 q3 q4 q5 q6 q7 s),(.mt 3 (mg f) (cellsOf Qf q))]⟩ (P1 (.exit 0) (λB d=>⟨sl d 39 [(0,(.ptr 8 0)),(6,(.ms 9 (mg f) 0 f.length f.length))],[(QA q2 q3 q4 q5 q6 q7 s),(.box [(La q0)]),(.box [(Qd q1)]),Zc,(QA q2 q3 q4 q5 q6 q7 s),Zc,(QA q2 q3 q4 q5 q6 q7 s),(QG t),(LF u t.length q2 q3 q4 q5 q6 q7 s),(.mt 3 (mg f) (cellsOf Qf B))]⟩) r):=by
 refine QS.partial_correctness _ (λQS YY x r hm=>?_);obtain⟨q0,f,t,q2,q3,q4,q5,q6,q7,s,q1,u,q,m⟩:=x
 exact lp (ge 1 (Qg (ri hm (λhm=>Qr (Qg (Qo (gr 1 (QY 1 Qf hm λc hm=>re 3 (ZP (Qe 4 (gi hm λz hm=>bi hm λF p hm=>QB rfl (λ_=>Q9 (e:=3) (n:=c) (j:=(c).toNat) (tt:=9) (g:=(mg f)) (lo:=0) (len:=f.length) (cap:=f.length) (k:=.i64) kr kr rfl kr kr (gx p) (zA (gV p) z)) (bi hm λC p hm=>QB rfl (λ_=>Xv (tt:=9) (g:=(mg f)) (j:=(0+(c).toNat)) (e:=3) (cs:=cellsOf Qf q) (v:=.dat (Qf C)) kr kr rfl kr (ZN kr) (gK Qf p)) (Qe 5 (bi hm λG p hm=>QB rfl (λ_=>Q9 (e:=3) (n:=m) (j:=(m).toNat) (tt:=7) (g:=1) (lo:=0) (len:=t.length) (cap:=t.length) (k:=.i64) kr kr rfl kr kr (gx p) (zA (gV p) rfl)) (bi hm λD p hm=>QB rfl (λ_=>Xv (tt:=7) (g:=1) (j:=(0+(m).toNat)) (e:=3) (cs:=cellsOf Qf t) (v:=.dat (Qf D)) kr kr rfl kr (ZN kr) (gK Qf p)) (Qe 1 (bi hm λE p hm=>cp (Vo p) (gi hm λA hm=>bi hm λI p hm=>QB rfl (λ_=>Q9 (e:=3) (n:=c) (j:=(c).toNat) (tt:=9) (g:=(mg f)) (lo:=0) (len:=f.length) (cap:=f.length) (k:=.i64) kr kr rfl kr kr (gx p) (zA (gV p) A)) (bi hm λw p hm=>Zz (λH=>H.set 9 (.mt 3 (mg f) (cellsOf Qf w))) rfl kr (λ_=>D1 Qf (l:=q) (n:=c) (y:=E) p yB kr rfl kr kr kr kr) (Q6 ⟨kr,gd (re 2 (YY _ _ hm _ (fO [(QA q2 q3 q4 q5 q6 q7 s),(.box [(La q0)]),(.box [(Qd q1)]),Zc,(QA q2 q3 q4 q5 q6 q7 s),Zc,(QA q2 q3 q4 q5 q6 q7 s),(QG t),(LF u t.length q2 q3 q4 q5 q6 q7 s),(.mt 3 (mg f) (cellsOf Qf w))] (λ_=>(fD kr (fD kr (fD kr (fD kr (fD kr (fD kr (fD kr (fD (fX Qf _ _ _ _ _) (fD kr (fD (fX Qf _ _ _ _ _) iq))))))))))) rfl)))⟩))))))))))))))))) (λhm=>QO zf))))
def Zw(x:((fj)×Int×Int×Int×Int×(fj)×Int×Int×Int×(fj)×Int)):Option ((Nat×(fj)×Nat)):=
 match x with
 |(q0,q1,q2,q3,q4,q5,q6,q7,f,g,e)=>
 jb 8 q1 0>>=λd=>
 QS (q0,d,g,q2,q3,q4,q5,q6,q7,f,q1,e,d,0)>>=λc=>
 some ((mg d),c,d.length)
theorem Vh{q0 q1 q2 q3 q4 q5 q6 q7 q8 q9 q10 v5001 v5002 v5003}(hm:Zw (q0,q1,q2,q3,q4,q5,q6,q7,q8,q9,q10)=some (v5001,v5002,v5003)):PC prog env 165 [(.ptr 8 0),(La q0),(Qd q1)] (Tu q2 q3 q4 q5 q6 q7 q8 q0 q1 q9 q10 q9.length) (.tup []) (SD q2 q3 q4 q5 q6 q7 q8 q0 q1 q9 q10 v5001 v5003 v5002):=by
 unfold Zw at hm;exact gB (fn:=f165) rfl (gr 1 (bi hm λc g hm=>Zz (v:=.ms 9 (mg c) 0 c.length c.length) (λH=>H++[.mt 3 (mg c) (cellsOf Qf c)]) rfl kr (by intro K j;exact SS 9 Qf (z:=0) (n:=q1) (bytes:=8) (e:=3) (os:=[]) g kr kr kr kr rfl rfl rfl kr kr kr j) (re 1 (Qg (gr 1 (QZ Qf q0 (re 1 (Qo (nA hm (YY _) (λf d hm=>gd (re 5 zf)) (hst:=(fO [(QA q2 q3 q4 q5 q6 q7 q8),(.box [(La q0)]),(.box [(Qd q1)]),Zc,(QA q2 q3 q4 q5 q6 q7 q8),Zc,(QA q2 q3 q4 q5 q6 q7 q8),(QG q9),(LF q10 q9.length q2 q3 q4 q5 q6 q7 q8),(.mt 3 (mg c) (cellsOf Qf c))] (λ_=>(fD kr (fD kr (fD kr (fD kr (fD kr (fD kr (fD kr (fD (fX Qf _ _ _ _ _) (fD kr (fD (fX Qf _ _ _ _ _) iq))))))))))) rfl)))))))))))
def Yz(x:(Int×Int×Int×(fj)×Int×Int×Int×(fj)×Int×(fj)×Int)):Option ((Nat×(fj)×Nat)):=
 match x with
 |(q0,q1,q2,q3,q4,q5,q6,q7,d,e,c)=>
 Zw (q7,d,q0,q1,q2,q3,q4,q5,q6,e,c)>>=λ(f,v2,g)=>
 some (f,v2,g)
theorem WU{q0 q1 q2 q3 q4 q5 q6 q7 q8 q9 q10 v5001 v5002 v5003}(hm:Yz (q0,q1,q2,q3,q4,q5,q6,q7,q8,q9,q10)=some (v5001,v5002,v5003)):PC prog env 164 [(.ptr 8 0),(.ptr 1 0),(.ptr 2 0)] (Tu q0 q1 q2 q3 q4 q5 q6 q7 q8 q9 q10 q9.length) (.tup []) (SD q0 q1 q2 q3 q4 q5 q6 q7 q8 q9 q10 v5001 v5003 v5002):=by
 unfold Yz at hm;exact gB (fn:=f164) rfl (ZP (Qe 5 (Nd hm λd v2 e c hm=>Q5 (Vh c) (Q6 ⟨kr,zf⟩))))
def ZJ(x:(Int×Int×Int×(fj)×Int×Int×Int×(fj)×Int×(fj)×Int×Nat×(fj)×Nat)):Option ((Int×Int×Int×Int×Int×Int)):=
 match x with
 |(q0,q1,q2,q3,q4,q5,q6,q7,g,j,c,d,e,f)=>
 if q0=3 then
  some (q2,c,q2,c,q2,c)
 else
 some (c,q4,c,q4,c,q4)
theorem U7{q0 q1 q2 q3 q4 q5 q6 q7 q8 q9 q10 q11 q12 q13 v5001 v5002 v5003 v5004 v5005 v5006}(hm:ZJ (q0,q1,q2,q3,q4,q5,q6,q7,q8,q9,q10,q11,q12,q13)=some (v5001,v5002,v5003,v5004,v5005,v5006)):PC prog env 193 [(.ptr 8 0)] (SD q0 q1 q2 q3 q4 q5 q6 q7 q8 q9 q10 q11 q13 q12) (.agg [(Qd q0),(Qd q1),(Qd v5005),(.ms 9 q11 0 q13 q13),(Qd v5006),(Qd q5),(Qd q6)]) [(QA q0 q1 q2 q3 q4 q5 q6),(.box [(La q7)]),(.box [(Qd q8)]),Zc,(QA q0 q1 q2 q3 q4 q5 q6),Zc,(QA q0 q1 q2 q3 q4 q5 q6),(QG q9),(S8 q10 q11 q13 q0 q1 q2 q3 q4 q5 q6),(LC q11 q12),(P3 q0 q1 v5001 q11 q13 v5002 q5 q6),(P3 q0 q1 v5003 q11 q13 v5004 q5 q6)]:=by
 unfold ZJ at hm;exact gB (fn:=f193) rfl (ge 1 (ge 6 (ge 7 (Qg (ge 3 (sQ hm (λhm=>gd (re 7 (ge 2 (Qn zf)))) (λhm=>gd (re 7 (ge 2 (Qn zf))))))))))
def Xi(x:(Int×Int×Int×(fj)×Int×Int×Int×(fj)×Int)):Option (Unit⊕ ((fj)×Nat×(fj)×Int×Nat×Int×Int×Nat×Int×Nat×Int×Int×Nat×Int×Int×Nat×Int)):=
 match x with
 |(q0,q1,q2,q3,q4,q5,q6,q7,f)=>
 if q0=1 then
  some (Sum.inl ())
 else
 X9 (q0,q1,q2,q3,q4,q5,q6,q7,f)>>=λ(g,v2)=>
 Yz (q0,q1,q2,q3,q4,q5,q6,q7,f,g,v2)>>=λ(j,k,c)=>
 ZJ (q0,q1,q2,q3,q4,q5,q6,q7,f,g,v2,j,k,c)>>=λ(l,m,n,p,d,e)=>
 some (Sum.inr (g,j,k,d,c,e,v2,c,l,c,m,n,c,p,d,c,e))
theorem TF{q0 q1 q2 q3 q4 q5 q6 q7 q8 r}(hm:Xi (q0,q1,q2,q3,q4,q5,q6,q7,q8)=some r):PC prog env 156 [(JX q0 q1 q2 q3 q4 q5 q6),(.fn 164 [(.ptr 1 0),(.ptr 2 0)])] [(QA q0 q1 q2 q3 q4 q5 q6),(.box [(La q7)]),(.box [(Qd q8)]),Zc] (match r with|.inl _=>(JX q0 q1 q2 q3 q4 q5 q6)|.inr ((e,c,f,g,j,k,l,m,n,p,q,s,t,u,v,d,w))=>(.agg [(Qd q0),(Qd q1),(Qd v),(.ms 9 c 0 d d),(Qd w),(Qd q5),(Qd q6)])) (match r with|.inl _=>[(QA q0 q1 q2 q3 q4 q5 q6),(.box [(La q7)]),(.box [(Qd q8)]),Zc,(QA q0 q1 q2 q3 q4 q5 q6),(QA q0 q1 q2 q3 q4 q5 q6)]|.inr ((e,c,f,g,j,k,l,m,n,p,q,s,t,u,v,d,w))=>[(QA q0 q1 q2 q3 q4 q5 q6),(.box [(La q7)]),(.box [(Qd q8)]),Zc,(QA q0 q1 q2 q3 q4 q5 q6),(P3 q0 q1 g c j k q5 q6),(QA q0 q1 q2 q3 q4 q5 q6),(QG e),(S8 l c m q0 q1 q2 q3 q4 q5 q6),(LC c f),(P3 q0 q1 n c p q q5 q6),(P3 q0 q1 s c t u q5 q6)]):=by
 unfold Xi at hm;exact gB (fn:=f156) rfl (ge 2 (Qg (ge 3 (sQ hm (λhm=>ge 2 (Qn zf)) (λhm=>Qr (gr 1 (uy hm λA v2 x hm=>Q5 (Wk x) (re 1 (gr 2 (Nd hm λB C D x hm=>Q5 (WU x) (Q6 (gr 1 (PW hm λE F G H y z x hm=>Q5 (U7 x) (re 1 (Qn zf)))))))))))))))
def XI(x:(Qh×(fj)×Int)):Option Qh:=
 match x with
 |(p0,p1,g)=>
 (
 Xi (p0.kind,p0.buffer,p0.base,p0.strides,p0.start,p0.step,p0.mod,p1,g)>>=λout=>
 match out with
 | .inl _=>
  some (⟨p0.kind,p0.buffer,p0.base,p0.strides,p0.start,p0.step,p0.mod⟩:Qh)
 | .inr ((p,v2,f,q,r,s,t,u,v,j,k,l,m,n,c,d,e))=>
  QR (f.length=d)>>=λ_=>
  some (⟨p0.kind,p0.buffer,c,f,e,p0.step,p0.mod⟩:Qh)
 )
theorem Uy{p0 p1 p2 r0}(hm:XI (p0,p1,p2)=some r0):FQ 120 [(Qh.toD p0),(Lb p1),(Qf p2)] (.dat (Qh.toD r0)):=by
 unfold XI at hm;exact fp (fn:=f120) rfl (ge 4 (gr 2 (bs hm (λ_ f hm=>Q5 (TF f) (re 1 (Qn zf))) λ⟨r,v2,k,s,t,u,v,w,x,l,m,n,p,q,g,c,j⟩ f hm=>Q5 (TF f) (re 1 (Qn (gi hm λd hm=>(by obtain rfl:=xt hm;exact⟨trivial,JI [(.agg [(Qd p0.kind),(Qd p0.buffer),(Qd g),(.ms 9 v2 0 c c),(Qd j),(Qd p0.step),(Qd p0.mod)])] kr (tC (fK kr (fK kr (fK kr (fK (kG (e:=3) Qf k d yB kr) (fK kr (fK kr (fK kr mT))))))))⟩)))))))
def XX(x:((fj)×(fj)×(fj)×Int×Int×Int×(fj)×Int×Int×Int×Nat)):Option ((Nat×(fj)×(fj))):=
 match x with
 |(q0,q1,q2,q3,q4,q5,q6,q7,e,f,d)=>
 jb 8 (q0.length:Int) 0>>=λc=>
 Qu q0>>=λv2=>
 some ((mg c),c,v2)
theorem Wq{q0 q1 q2 q3 q4 q5 q6 q7 q8 q9 q10 v5001 v5002 v5003}(hm:XX (q0,q1,q2,q3,q4,q5,q6,q7,q8,q9,q10)=some (v5001,v5002,v5003)):PC prog env 111 [(La q0)] [(.tok 62 q10),(Zv q1 q2 q3 q4 q5 q6 q7 q8 q9)] (.agg [(.ms 3 v5001 0 v5002.length v5002.length),(.ms 4 1 0 v5003.length v5003.length)]) [(.tok 62 q10),(Zv q1 q2 q3 q4 q5 q6 q7 q8 q9),(Ma v5001 v5002.length v5003.length),(LC v5001 v5002),(QG v5003)]:=by
 unfold XX at hm;exact gB (fn:=f111) rfl (ge 1 (Qg (ZP (Qe 1 (QZ Qf q0 (bi hm λc d hm=>Zz (v:=.ms 3 (mg c) 0 c.length c.length) (λH=>H++[.mt 3 (mg c) (cellsOf Qf c)]) rfl kr (by intro K f;exact SS 3 Qf (z:=0) (n:=(q0.length:Int)) (bytes:=8) (e:=3) (os:=[]) d kr kr kr kr rfl rfl rfl kr kr kr f) (Qe 1 (bi hm λv2 d hm=>go 4 3 Qf (Qz d) (re 2 ⟨kr,Qn zf⟩)))))))))
def Zy(x:((fj)×(fj)×Qa×(fj)×(fj)×(List Qa)×(List Qa)×Int×Nat×(fj)×(fj)×Int)):Option (((fj)×(fj))):=
 match x with
 |(p1,g,j,k,A,s,p0,t,u,d,e,f)=>
 if f<(p1.length:Int)then
  idx p1 f>>=λc=>
  QR (d.length=g.length)>>=λ_=>
  idx d c>>=λv=>
  idx d c>>=λl=>
  idx j.box.lo f>>=λm=>
  QR (d.length=g.length)>>=λ_=>
  idx d c>>=λw=>
  iL d c (if l<m then m else l)>>=λq=>
  QR (e.length=k.length)>>=λ_=>
  idx e c>>=λy=>
  idx e c>>=λn=>
  idx j.box.hi f>>=λp=>
  QR (e.length=k.length)>>=λ_=>
  idx e c>>=λz=>
  iL e c (if p<n then p else n)>>=λr=>
  Zy (p1,g,j,k,A,s,p0,t,u,q,r,(W (f+1)))
 else
 some (d,e)
 partial_fixpoint
theorem J9:∀x r,Zy x=some r->match x with|(p1,q,c,s,P,t,p0,E,p,C,D,M)=>LQ f74 74 [1,1,0,1,0,0,1,1,0,0,1,1,0,1,0,0] 6 ⟨kp 75 [(1,(La p1)),(2,(La P)),(7,(Xw t)),(9,(.ptr 1 0)),(10,(.ptr 5 0)),(13,(QX p0)),(14,(Qd (p0.length:Int))),(15,(Qd E)),(21,(La p1)),(22,(Qd (p1.length:Int))),(23,(Qd M))],[(.tok 62 t.length),(Zv c.box.lo c.box.hi c.access.kind c.access.buffer c.access.base c.access.strides c.access.start c.access.step c.access.mod),(Ma p q.length s.length),(LC p C),(QG D),(Ma p q.length s.length)]⟩ (P1 (.exit 2) (λ(N,O) d=>⟨sl d 75 [(1,(La p1)),(2,(La P)),(7,(Xw t)),(9,(.ptr 1 0)),(10,(.ptr 5 0)),(13,(QX p0)),(14,(Qd (p0.length:Int))),(15,(Qd E))],[(.tok 62 t.length),(Zv c.box.lo c.box.hi c.access.kind c.access.buffer c.access.base c.access.strides c.access.start c.access.step c.access.mod),(Ma p q.length s.length),(LC p N),(QG O),(Ma p q.length s.length)]⟩) r):=by
 refine Zy.partial_correctness _ (λZy J9 x r hm=>?_);obtain⟨p1,q,c,s,P,t,p0,E,p,C,D,M⟩:=x
 exact lp (ge 1 (Qg (ri hm (λhm=>Qr (Qg (Qo (gr 1 (QY 1 Qf hm λf hm=>re 3 (Qg (ZP (Qe 6 (gi hm λI hm=>bi hm λQ u hm=>QB rfl (λ_=>Q9 (e:=3) (n:=f) (j:=(f).toNat) (tt:=3) (g:=p) (lo:=0) (len:=q.length) (cap:=q.length) (k:=.i64) kr kr rfl kr kr (gx u) (zA (gV u) I)) (bi hm λw u hm=>QB rfl (λ_=>Xv (tt:=3) (g:=p) (j:=(0+(f).toNat)) (e:=3) (cs:=cellsOf Qf C) (v:=.dat (Qf w)) kr kr rfl kr (ZN kr) (gK Qf u)) (Qe 4 (QY 1 Qf hm λA hm=>Qe 1 (QB rfl (λ_=>NB (k:=.i64) (m:=w) (n:=A) rfl kr kr) (gi hm λJ hm=>bi hm λR u hm=>QB rfl (λ_=>Q9 (e:=3) (n:=f) (j:=(f).toNat) (tt:=3) (g:=p) (lo:=0) (len:=q.length) (cap:=q.length) (k:=.i64) kr kr rfl kr kr (gx u) (zA (gV u) J)) (bi hm λF u hm=>Zz (λH=>H.set 3 (LC p F)) rfl kr (λ_=>D1 Qf (l:=C) (n:=f) (y:=(if w<A then A else w)) u yB kr rfl kr kr kr kr) (Q6 ⟨kr,ZP (Qe 6 (gi hm λK hm=>bi hm λS u hm=>QB rfl (λ_=>Q9 (e:=3) (n:=f) (j:=(f).toNat) (tt:=4) (g:=1) (lo:=0) (len:=s.length) (cap:=s.length) (k:=.i64) kr kr rfl kr kr (gx u) (zA (gV u) K)) (bi hm λz u hm=>QB rfl (λ_=>Xv (tt:=4) (g:=1) (j:=(0+(f).toNat)) (e:=3) (cs:=cellsOf Qf D) (v:=.dat (Qf z)) kr kr rfl kr (ZN kr) (gK Qf u)) (Qe 4 (QY 1 Qf hm λB hm=>Qe 1 (QB rfl (λ_=>MS (k:=.i64) (m:=z) (n:=B) rfl kr kr) (gi hm λL hm=>bi hm λT u hm=>QB rfl (λ_=>Q9 (e:=3) (n:=f) (j:=(f).toNat) (tt:=4) (g:=1) (lo:=0) (len:=s.length) (cap:=s.length) (k:=.i64) kr kr rfl kr kr (gx u) (zA (gV u) L)) (bi hm λG u hm=>Zz (λH=>H.set 4 (QG G)) rfl kr (λ_=>D1 Qf (l:=D) (n:=f) (y:=(if B<z then B else z)) u yB kr rfl kr kr kr kr) (Q6 ⟨kr,gd (re 2 (J9 _ _ hm _ (fO [(.tok 62 t.length),(Zv c.box.lo c.box.hi c.access.kind c.access.buffer c.access.base c.access.strides c.access.start c.access.step c.access.mod),(Ma p q.length s.length),(LC p F),(QG G),(Ma p q.length s.length)] (λ_=>(fD kr (fD kr (fD kr (fD (fX Qf _ _ _ _ _) (fD (fX Qf _ _ _ _ _) (fD kr iq))))))) rfl)))⟩)))))))))⟩)))))))))))))))) (λhm=>QO zf))))
def Zp(x:((List Qa)×(fj)×(fj)×(List Qa)×Int)):Option ((List Qa)):=
 match x with
 |(p0,p,p1,d,e)=>
 if e<(p0.length:Int)then
  idx p0 e>>=λc=>
  XX (p,c.box.lo,c.box.hi,c.access.kind,c.access.buffer,c.access.base,c.access.strides,c.access.start,c.access.step,c.access.mod,d.length)>>=λ(n,f,g)=>
  Zy (p1,f,c,g,p,d,p0,e,n,f,g,0)>>=λ(j,k)=>
  XI (c.access,p1,(p.length:Int))>>=λl=>
  QR (j.length=f.length)>>=λ_=>
  QR (k.length=g.length)>>=λ_=>
  app 120 d ([(⟨(⟨j,k⟩:Ql),l⟩:Qa)]:List Qa)>>=λm=>
  Zp (p0,p,p1,m,(W (e+1)))
 else
 some d
 partial_fixpoint
theorem J8:∀x r,Zp x=some r->match x with|(p0,y,p1,g,s)=>LQ f74 74 [1,1,0,1,0,0] 1 ⟨kp 75 [(1,(La p1)),(2,(La y)),(7,(Xw g)),(13,(QX p0)),(14,(Qd (p0.length:Int))),(15,(Qd s))],[(.tok 62 g.length)]⟩ (P1 (.exit 0) (λt d=>⟨sl d 75 [(7,(Xw t))],[(.tok 62 t.length)]⟩) r):=by
 refine Zp.partial_correctness _ (λZp J8 x r hm=>?_);obtain⟨p0,y,p1,g,s⟩:=x
 exact lp (ge 1 (Qg (ri hm (λhm=>Qr (Qg (Qo (Qg (gd (QY 9 Qa.toD hm λf hm=>re 3 (gr 1 (Nd hm λl m n w hm=>Q5 (Wq w) (re 2 (Qg (gr 1 (QZ Qf p1 (re 1 (Qo (nA hm (J9 _) (λ⟨j,k⟩ d hm=>ZP (Qe 6 (QZ Qf y (bi hm λc w hm=>cp (Uy w) (gi hm λp hm=>gi hm λq hm=>Zz (v:=(OP j k c.kind c.buffer c.base c.strides c.start c.step c.mod)) (λH=>((H.set 3 (.mt 3 (l+1) (cellsOf Qf ([]:fj)))).set 4 PE)) rfl kr (λ_ z=>Ve (cs:=[(.ms 3 l 0 m.length m.length),(.ms 4 1 0 n.length n.length),(Qd c.kind),(Qd c.buffer),(Qd c.base),(La c.strides),(Qd c.start),(Qd c.step),(Qd c.mod)]) rfl kr kr (NH Qf j (e:=3) p yB kr (NH Qf k (e:=3) q yB kr (rG (rG (rG (rG (rG (rG (rG NZ))))))))) z) (Qe 1 (bi hm λu w hm=>Jh 62 9 120 0 Qa.toD g ([(⟨(⟨j,k⟩:Ql),c⟩:Qa)]:List Qa) u (xs:=(List.map Qa.toD) g) (es:=(List.map Qa.toD) ([(⟨(⟨j,k⟩:Ql),c⟩:Qa)]:List Qa)) (L:=(List.map Qa.toD)) yB rfl rfl Qa.fit w (re 1 ⟨kr,gd (re 2 (J8 _ _ hm _ kr))⟩)))))))) (hst:=(fO [(.tok 62 g.length),(Zv f.box.lo f.box.hi f.access.kind f.access.buffer f.access.base f.access.strides f.access.start f.access.step f.access.mod),(Ma l m.length n.length),(LC l m),(QG n),(Ma l m.length n.length)] (λ_=>(fD kr (fD kr (fD kr (fD (fX Qf _ _ _ _ _) (fD (fX Qf _ _ _ _ _) (fD kr iq))))))) rfl))))))))))))))))) (λhm=>QO zf))))
def XZ(x:((List Qa)×(fj)×(fj))):Option (List Qa):=
 match x with
 |(p0,p1,e)=>
 Zp (p0,e,p1,([]:List Qa),0)>>=λd=>
 Zq d>>=λc=>
 some c
theorem Wl{p0 p1 p2 r0}(hm:XZ (p0,p1,p2)=some r0):FQ 74 [(.lst ((List.map Qa.toD) p0)),(Lb p1),(Lb p2)] (QX r0):=by
 unfold XZ at hm;exact fp (fn:=f74) rfl (ge 1 (ge 1 (Qg (gr 1 (QZ Qa.toD p0 (re 1 (Qo (nA hm (J8 _) λe d hm=>gr 1 (bi hm λc f hm=>cp (XN f) (re 1 (Qn zf)))))))))))
def Js(x:(Qj×(List (List Qa)))):Option (List Qa):=
 match x with
 |(p0,p1)=>
 idx p1 0>>=λc=>
 XZ (c,p0.perm,p0.shape)>>=λv2=>
 some v2
theorem WJ{p0 p1 r0}(hm:Js (p0,p1)=some r0):FQ 73 [(Qj.ex p0),(.lst ((List.map (λl=>fy.lst ((List.map Qa.toD) l))) p1))] (QX r0):=by
 unfold Js at hm;exact fp (fn:=f73) rfl (ge 2 (Qg (ZP (Qe 1 (bi hm λe c hm=>Ji 1 (λl=>fy.lst ((List.map Qa.toD) l)) p1 0 e (es:=(List.map (λl=>fy.lst ((List.map Qa.toD) l))) p1) (d:=(.lst ((List.map Qa.toD) e))) rfl c rfl rfl (Qe 5 (bi hm λv2 c hm=>cp (Wl c) (re 1 ⟨kr,Qn zf⟩))))))))
def QN(x:((fj)×(fj)×Int)):Option (Unit⊕ Unit):=
 match x with
 |(p0,p1,c)=>
 if c<(p0.length:Int)then
  idx p0 c>>=λd=>
  idx p1 c>>=λe=>
  if d≠e then
   some (Sum.inl ())
  else
  QN (p0,p1,(W (c+1)))
 else
 some (Sum.inr ())
 partial_fixpoint
theorem XQ:∀x r,QN x=some r->match x with|(p0,p1,c)=>LQ f132 132 [1,1,0,1,0,0] 0 ⟨kp 26 [(0,(La p0)),(1,(La p1)),(12,(Qd (p0.length:Int))),(13,(Qd c))],[]⟩ (P2 .ret (λ_ d=>⟨sl d 26 [(4,(Qp false))],[]⟩) (.exit 0) (λ_ d=>⟨sl d 26 [],[]⟩) r):=by
 refine QN.partial_correctness _ (λQN XQ x r hm=>?_);obtain⟨p0,p1,c⟩:=x;exact lp (ge 1 (Qg (ri hm (λhm=>Qr (Qg (Qo (ge 2 (Qg (ZP (Qe 2 (QY 1 Qf hm λe hm=>Qe 3 (QY 1 Qf hm λf hm=>re 2 ⟨kr,Eo hm (λhm=>ge 1 (Qn zf)) (λhm=>Qr (gd (re 2 (XQ _ _ hm _ kr))))⟩))))))))) (λhm=>QO zf))))
def Yr(x:((fj)×(fj))):Option Bool:=
 match x with
 |(p0,p1)=>
 if(p0.length:Int)≠(p1.length:Int)then
  some false
 else
 (
 QN (p0,p1,0)>>=λout=>
 match out with
 | .inl _=>
  some false
 | .inr (_)=>
  some true
 )
theorem Ux{p0 p1 r0}(hm:Yr (p0,p1)=some r0):FQ 132 [(Lb p0),(Lb p1)] (Qp r0):=by
 unfold Yr at hm;exact fp (fn:=f132) rfl (ge 1 (Qg (gr 1 (QZ Qf p0 (Qe 1 (QZ Qf p1 (re 1 (Eo hm (λhm=>ge 1 (Qn zf)) (λhm=>Qr (Qg (gr 1 (QZ Qf p0 (re 1 (Qo (rN hm (XQ _) (λ_ d hm=>zf) λ_ d hm=>ge 1 (Qn zf))))))))))))))))
def XH(x:((fj)×(fj))):Option Bool:=
 match x with
 |(p0,p1)=>
 Yr (p0,p1)>>=λc=>
 some c
theorem V5{p0 p1 r0}(hm:XH (p0,p1)=some r0):FQ 121 [(Lb p0),(Lb p1)] (Qp r0):=by
 unfold XH at hm;exact fp (fn:=f121) rfl (ge 1 (gr 2 (bi hm λd c hm=>cp (Ux c) (re 1 (Qn zf)))))
def XL(x:((fj)×(fj))):Option ((fj)×(fj)):=
 match x with
 |(p0,p1)=>
 Qu p0>>=λc=>
 Qu p1>>=λv2=>
 some (c,v2)
theorem Vl{p0 p1 v5001 v5002}(hm:XL (p0,p1)=some (v5001,v5002)):FQ 172 [(Lb p0),(Lb p1)] (.fn 202 [(.iptr [(Lb v5001)]),(.iptr [(Lb v5002)])]):=by
 unfold XL at hm;exact fp (fn:=f172) rfl (ge 3 (Qg (ZP (Qe 1 (bi hm λd c hm=>QB (v:=.dat (Lb d)) rfl (λ_=>Jg (f:=154) (first:=#[]) (cap:=#[]) (e:=3) (ow':=[]) (ds:=[.lst ((List.map Qf) p0)]) rfl kr kr kr kr (Qz c) (xV (kG (e:=3) Qf d rfl yB kr))) (Qe 1 (bi hm λv2 c hm=>QB (v:=.dat (Lb v2)) rfl (λ_=>Jg (f:=154) (first:=#[]) (cap:=#[]) (e:=3) (ow':=[]) (ds:=[.lst ((List.map Qf) p1)]) rfl kr kr kr kr (Qz c) (xV (kG (e:=3) Qf v2 rfl yB kr))) (re 2 ⟨kr,ge 2 (Qn zf)⟩))))))))
def Ze(x:((fj)×(fj)×(fj)×(fj)×Int)):Option ((fj)⊕ (fj)):=
 match x with
 |(q2,q1,q0,d,c)=>
 if c>=0 then
  QR (d.length=q2.length)>>=λ_=>
  idx d c>>=λm=>
  idx d c>>=λf=>
  QR (d.length=q2.length)>>=λ_=>
  idx d c>>=λn=>
  iL d c (W (f+1))>>=λe=>
  QR (e.length=q2.length)>>=λ_=>
  idx e c>>=λp=>
  idx e c>>=λg=>
  idx q1 c>>=λj=>
  if g<j then
   some (Sum.inl e)
  else
  idx q0 c>>=λk=>
  QR (e.length=q2.length)>>=λ_=>
  idx e c>>=λq=>
  iL e c k>>=λl=>
  Ze (q2,q1,q0,l,(W (c - 1)))
 else
 some (Sum.inr d)
 partial_fixpoint
theorem X7:∀x r,Ze x=some r->match x with|(q2,q1,q0,m,c)=>LQ f203 203 [1,0,1,0,0] 2 ⟨kp 37 [(0,(La q0)),(1,(La q1)),(2,(.ms 0 1 0 q2.length q2.length)),(7,(Qd c))],[(QG m),Od]⟩ (P2 .ret (λA d=>⟨sl d 37 [(6,(Qp true))],[(QG A),Od]⟩) (.exit 0) (λB d=>⟨sl d 37 [],[(QG B),Od]⟩) r):=by
 refine Ze.partial_correctness _ (λZe X7 x r hm=>?_);obtain⟨q2,q1,q0,m,c⟩:=x
 exact lp (Qg (ge 2 (ri hm (λhm=>Qr (Qg (Qo (Qg (gr 2 (gi hm λt hm=>bi hm λE f hm=>QB rfl (λ_=>Q9 (e:=3) (n:=c) (j:=(c).toNat) (tt:=0) (g:=1) (lo:=0) (len:=q2.length) (cap:=q2.length) (k:=.i64) kr kr rfl kr kr (gx f) (zA (gV f) t)) (bi hm λq f hm=>QB rfl (λ_=>Xv (tt:=0) (g:=1) (j:=(0+(c).toNat)) (e:=3) (cs:=cellsOf Qf m) (v:=.dat (Qf q)) kr kr rfl kr (ZN kr) (gK Qf f)) (Qe 1 (gi hm λu hm=>bi hm λF f hm=>QB rfl (λ_=>Q9 (e:=3) (n:=c) (j:=(c).toNat) (tt:=0) (g:=1) (lo:=0) (len:=q2.length) (cap:=q2.length) (k:=.i64) kr kr rfl kr kr (gx f) (zA (gV f) u)) (bi hm λp f hm=>Zz (λH=>H.set 0 (QG p)) rfl kr (λ_=>D1 Qf (l:=m) (n:=c) (y:=(W (q+1))) f yB kr rfl kr kr kr kr) (Q6 (Qg (ZP (Qe 2 (gi hm λw hm=>bi hm λG f hm=>QB rfl (λ_=>Q9 (e:=3) (n:=c) (j:=(c).toNat) (tt:=0) (g:=1) (lo:=0) (len:=q2.length) (cap:=q2.length) (k:=.i64) kr kr rfl kr kr (gx f) (zA (gV f) w)) (bi hm λC f hm=>QB rfl (λ_=>Xv (tt:=0) (g:=1) (j:=(0+(c).toNat)) (e:=3) (cs:=cellsOf Qf p) (v:=.dat (Qf C)) kr kr rfl kr (ZN kr) (gK Qf f)) (Qe 2 (QY 1 Qf hm λI hm=>re 2 ⟨kr,ri hm (λhm=>ge 1 (Qn zf)) (λhm=>Qr (gd (Qe 4 (QY 1 Qf hm λD hm=>Qe 1 (gi hm λz hm=>bi hm λJ f hm=>QB rfl (λ_=>Q9 (e:=3) (n:=c) (j:=(c).toNat) (tt:=0) (g:=1) (lo:=0) (len:=q2.length) (cap:=q2.length) (k:=.i64) kr kr rfl kr kr (gx f) (zA (gV f) z)) (bi hm λs f hm=>Zz (λH=>H.set 0 (QG s)) rfl kr (λ_=>D1 Qf (l:=p) (n:=c) (y:=D) f yB kr rfl kr kr kr kr) (Q6 (gd (re 3 (X7 _ _ hm _ (fO [(QG s),Od] (λ_=>(fD (fX Qf _ _ _ _ _) (fD (fX Qf _ _ _ _ _) iq))) rfl)))))))))))⟩)))))))))))))))))) (λhm=>QO zf))))
def Y5(x:((fj)×(fj)×(fj))):Option (((fj)×Bool)):=
 match x with
 |(q0,q1,q2)=>
 (
 Ze (q2,q1,q0,q2,(W ((q2.length:Int) - 1)))>>=λout=>
 match out with
 | .inl c=>
  some (c,true)
 | .inr (d)=>
  some (d,false)
 )
theorem UW{q0 q1 q2 v5001 v5002}(hm:Y5 (q0,q1,q2)=some (v5001,v5002)):PC prog env 203 [(La q0),(La q1),(.ms 0 1 0 q2.length q2.length)] [(QG q2),Od] (Qp v5002) [(QG v5001),Od]:=by
 unfold Y5 at hm;exact gB (fn:=f203) rfl (ge 1 (Qg (gr 1 (Qe 1 (re 2 (Qo (rN hm (X7 _) (λc d hm=>zf) (λe d hm=>ge 1 (Qn zf)) (hst:=(fO [(QG q2),Od] (λ_=>(fD (fX Qf _ _ _ _ _) (fD (fX Qf _ _ _ _ _) iq))) rfl)))))))))
theorem tU:∀l:fj,gQ (cellsOf Qf l)=some (l.map Qf)
 |[]=>rfl
 |a::l=>by
  have c:gQ (List.map (λa=>PV.dat (Qf a)) l)=some (l.map Qf):=by simpa[cellsOf]using tU l
  simp[cellsOf,gQ,c]
theorem Up{P:fm}{E:Env}{n:List (Nat×Nat)}{o:Oper}{ρ:ft->PV}{H:List fB}{K:PV->List fB->Prop}{f:fo}{x:ft}{args:Array Operand}{ts:Array TypeId}{first cap:Array Value}{os:List (Nat×Nat)}{e0 e g:Nat}{ds:List fy}{l:fj}(q:o.op=.call {callee:=.value x,args:=args,argTypes:=ts})(r:ρ x=.dat (.raw (.func (.func f) first cap)))(hw:n=(5000,e0)::os)(s:gp H (args.toList.map ρ)=some ds)(hc:PC P E f (ds.map .dat) [] (.ms 0 g 0 l.length l.length) [.mt e g (cellsOf Qf l)])(j:K (.dat (.lst (l.map Qf))) (H++[.mt e 2 []])):iV P E n o ρ H K:=by
 obtain⟨N,h⟩:=hc;refine⟨_,_,⟨N,λk j=>?_⟩,j⟩;have hl:(cellsOf Qf l).length=l.length:=by rw[gU]
 have p:(H++[fB.mt e 1 (cellsOf Qf l)])[H.length]?=some (.mt e 1 (cellsOf Qf l)):=by simp
 have t:(cellsOf Qf l).take l.length=cellsOf Qf l:=cG y8
 have c:(gQ (cellsOf Qf l)).isSome=true:=by
  rw[tU];rfl
 have m:(cellsOf Qf l).all PV.plainCell=true:=nz yB _;have hm:mtOf [fB.mt e g (cellsOf Qf l)] 0=some (e,g,cellsOf Qf l):=ZN rfl
 have d:gY (H++[fB.mt e 1 (cellsOf Qf l)]) (.ms H.length 1 0 l.length l.length)=some (.lst (l.map Qf),H++[.mt e 2 []]):=by
  simp only[gY,kG Qf l rfl yB p,ZN p,jN];simp
 simp only[gq,q,hw,r,show¬13000<=5000 by omega,show¬12000<=5000 by omega,show¬(5000=7000) by omega,show¬6000<=5000 by omega,aj,ak,si,kf,s,h k j,hm,t,c,m,hl,j7,and_self,dn,d,jN]
def F7(ys:List Tmp)(o:Oper):Bool:=(match o.op with|.move (.tmp t)=>!ys.contains t|.call {callee:=.value (.tmp t),..}=>!ys.contains t|_=>true) &&(match o.dst with|some d=>!ys.contains d|none=>true)
section
variable{σ:Type}{P:fm}{E:Env}{Y:Nat->Nat->List fy->σ->Option (Bool×σ)}{hn:Hint}{ys:List Tmp}
theorem IE{call:gk}{Y:List fy->σ->Option (Bool×σ)}{r i:Nat}{ops:Array Oper}{o:Oper}{st:St}{out:σ}(h:F7 ys o=true):ln P call hn Y r ops i o ⟨st,ys,out⟩=(iJ P call hn r ops i o st).map λst=>⟨st,ys,out⟩:=by
 simp only[F7,jE]at h;obtain⟨c,j⟩:=h
 have f:rJ ys o.dst=ys:=by
  unfold rJ;split
  .rename_i d k;rw[k]at j;refine eZ.2 λx l=>?_
   have m:¬d∈ys:=by simpa using j
   have:x≠d:=λe=>m (e ▸ l)
   simpa using this
  .rfl
 unfold ln;split
 .rename_i t g n;rw[g]at c
  have:ys.contains t=false:=by simpa using c
  simp only[this,j6,aj,f]
 .rename_i t args ts g n;rw[g]at c
  have:ys.contains t=false:=by simpa using c
  simp only[this,j6,aj,f]
 .simp only[f]
theorem xL{call:gk}{Y:List fy->σ->Option (Bool×σ)}{r:Nat}{ops:Array Oper}{out:σ}:∀(os:List Oper) (i:Nat) (st st':St),os.all (F7 ys)=true->kP P call hn r ops i os st=some st'->jr P call hn Y r ops i os ⟨st,ys,out⟩=some ⟨st',ys,out⟩
 |[],i,st,st',_,h=>by cases h;rfl
 |o::os,i,st,st',hc,h=>by
  simp only[bq,jE]at hc;simp only[kP]at h;split at h
  .rename_i c d;simp only[jr,IE hc.1,d,jN];exact xL os (i+1) c st' hc.2 h
  .cases h
theorem Mf{r:Nat}{ops:Array Oper}{st:St}{out:σ}{Q:Ex->nQ σ->Prop}(hc:ops.toList.all (F7 ys)=true)(h:G P E hn r ops 0 (st,[]) λc=>Q .normal ⟨c.1,ys,out⟩):IR P E Y hn (.region r ops false) ⟨st,ys,out⟩ Q:=by
 obtain⟨s,fl,⟨N,d⟩,e⟩:=h;refine sV ⟨⟨s,ys,out⟩,⟨N,λk n f g=>?_⟩,e⟩;exact xL _ _ _ _ hc (qd _ _ _ _ _ _ _ _ _ _ (d k f))
end
def D4(x:(fj)×(fj)×(fj)):Option (List fj):=
 match x with
 |(lo,hi,at_)=>
 Qu at_>>=λc=>
 Y5 (lo,hi,at_)>>=λ((n,ok):(fj×Bool))=>
 QR (n.length=at_.length)>>=λ(_:Unit)=>
 if ok=true then
  D4 (lo,hi,n)>>=λr=>some (c::r)
 else
 some [c]
 partial_fixpoint
def Is(lo hi:fj):Option (List fj):=
 Qu lo>>=λat_=>
 Y9 (lo,hi)>>=λn=>
 if n>0 then D4 (lo,hi,at_)else some []
theorem KX{σ:Type}{s s':St}{y c:List Tmp}{o:σ}(h:s=s')(d:y=c):(⟨s,y,o⟩:nQ σ)=⟨s',c,o⟩:=by rw[h,d]
theorem D7{lo hi:fj}{l:List (fj)}(j:Is lo hi=some l)(Y:Nat->Nat->List fy->yX->Option (Bool×yX))(fin s:yX)(p:Ni Y fin (l.map λa:fj=>fy.lst (a.map Qf)) s):
  IR prog env Y (env.hint 202) (G0 f202) ⟨⟨.undef::[.iptr [.lst (lo.map Qf)],.iptr [.lst (hi.map Qf)]]++List.replicate (f202.ntmps - ([PV.iptr [.lst (lo.map Qf)],.iptr [.lst (hi.map Qf)]].length+1)) (.tup []),[]⟩,[0],s⟩ λe is=>(match e with|.exit _=>False|_=>True)/\is.out=fin:=by
 unfold Is at j;obtain⟨q,w,j⟩:=Z9 j;obtain⟨n,y,j⟩:=Z9 j;refine Mg (fn:=f202) rfl ?_ (G0 f202) rfl;refine pL (Mf kr (Qe 1 (go 0 3 Qf (Qz w) (re 1 ?_))));refine pL (Mf kr (Qe 2 (cp (λH=>Sg y H) (re 2 ?_))));refine vU (LN ?_)
 refine FY (λ(x:Bool×fj×List fj×yX)=>⟨⟨kp 22 [(1,.iptr [.lst (lo.map Qf)]),(2,.iptr [.lst (hi.map Qf)]),(4,.ms 0 1 0 x.2.1.length x.2.1.length),(5,Qp x.1)],[.mt 3 1 (cellsOf Qf x.2.1)]⟩,[0],x.2.2.2⟩)
  (λx=>((x.1=true/\D4 (lo,hi,x.2.1)=some x.2.2.1)\/(x.1=false/\x.2.2.1=[]))/\Ni Y fin (x.2.2.1.map λa:fj=>fy.lst (a.map Qf)) x.2.2.2) (λx=>x.2.2.1.length) (λx d=>?_) (l.length+1) (decide (n>0),q,l,s) _ (cZ _) ⟨?_,p⟩ ?_
 .obtain⟨ok,at_,t,s⟩:=x;obtain⟨d,p⟩:=d;simp only at d p;refine pL (pL (Mf kr (re 1 ?_)));rcases d with⟨rfl,d⟩|⟨rfl,rfl⟩
  .refine Fz kr (E3 ?_);rw[D4]at d;obtain⟨c,k1,d⟩:=Z9 d;obtain⟨⟨m,ok⟩,k2,d⟩:=Z9 d;obtain⟨_,k3,d⟩:=Z9 d;replace k3:=Us k3
   have k:∃r,t=c::r/\((ok=true/\D4 (lo,hi,m)=some r)\/(ok=false/\r=[])):=by
    cases ok with
    |true=>
     rw[ai rfl]at d;obtain⟨r,z,d⟩:=Z9 d;cases d;exact⟨r,rfl,.inl ⟨rfl,z⟩⟩
    |false=>
     rw[af yC]at d;cases d;exact⟨[],rfl,.inr ⟨rfl,rfl⟩⟩
   obtain⟨r,rfl,A⟩:=k;have B:∀(b:Bool) (out:yX) {Q:Ex->nQ yX->Prop},YE Y [fy.lst (c.map Qf)] s b out->True:=λ_ _ _ _=>trivial
   cases p with
   |go u v=>
    refine pL (vU (pL (sV (ER rfl rfl rfl rfl (of_decide_eq_true kr) (qn (λ_ _=>rfl) kr (TQ rfl (qn (λ_ _=>rfl) kr (Up (f:=154) (first:=#[]) (cap:=#[]) (os:=[]) (e0:=3) (l:=c) rfl kr kr (ml (xV (kG (e:=3) Qf at_ rfl yB kr)) tu) (Qz k1) (vX rfl rfl rfl kr kr u (qn (λ_ _=>rfl) kr (Ul (b:=true) rfl kr (Bp ?_))))))))))));refine BK kr (E3 ?_)
    change IR prog env Y (env.hint 202) _ _ _
    refine Rb (is':=⟨_,[17,0],_⟩) rfl ?_;refine Mf kr (Qe 3 (Q5 (UW k2) (re 1 ?_)));refine⟨(ok,m,r,_),?_,?_,A,v⟩
    .refine KX ?_ rfl;show _=(⟨kp 22 [(1,.iptr [.lst (lo.map Qf)]),(2,.iptr [.lst (hi.map Qf)]),(4,.ms 0 1 0 m.length m.length),(5,Qp ok)],[.mt 3 1 (cellsOf Qf m)]⟩:St)
     rw[k3];exact fO [.mt 3 1 (cellsOf Qf m)] (λ_=>(fD (fX Qf _ _ _ _ _) iq)) rfl
    .simp
   |stop u=>
    refine pL (vU (pL (sV (ER rfl rfl rfl rfl (of_decide_eq_true kr) (qn (λ_ _=>rfl) kr (TQ rfl (qn (λ_ _=>rfl) kr (Up (f:=154) (first:=#[]) (cap:=#[]) (os:=[]) (e0:=3) (l:=c) rfl kr kr (ml (xV (kG (e:=3) Qf at_ rfl yB kr)) tu) (Qz k1) (vX rfl rfl rfl kr kr u (qn (λ_ _=>rfl) kr (Ul (b:=false) rfl kr (Bp ?_))))))))))));exact Fz kr (Oq ⟨trivial,rfl⟩)
  .refine BK kr (L3 ?_);cases p;exact⟨trivial,rfl⟩
 .by_cases g:n>0
  .rw[ai g]at j;exact .inl ⟨decide_eq_true g,j⟩
  .rw[af g]at j;cases j;exact .inr ⟨zZ g,rfl⟩
 .exact KX (fO [.mt 3 1 (cellsOf Qf q)] (λ_=>(fD (fX Qf _ _ _ _ _) iq)) rfl) rfl
def Yj(x:((fj)×(fj)×Int)):Option (Unit⊕ Unit):=
 match x with
 |(p1,p0,c)=>
 if c<(p1.length:Int)then
  idx p1 c>>=λd=>
  (if d<0 then
   some true
  else
  idx p0 c>>=λe=>
  some (decide (d>=e))
  )>>=λ(f:Bool)=>
  if f=true then
   some (Sum.inl ())
  else
  Yj (p1,p0,(W (c+1)))
 else
 some (Sum.inr ())
 partial_fixpoint
theorem SH:∀x r,Yj x=some r->match x with|(p1,p0,c)=>LQ f204 204 [1,1,0,1,0,0] 0 ⟨kp 30 [(0,(La p0)),(12,(La p1)),(13,(Qd (p1.length:Int))),(14,(Qd c))],[]⟩ (P2 .ret (λ_ d=>⟨sl d 30 [(4,(Qp false))],[]⟩) (.exit 0) (λ_ d=>⟨sl d 30 [],[]⟩) r):=by
 refine Yj.partial_correctness _ (λYj SH x r hm=>?_);obtain⟨p1,p0,c⟩:=x;exact lp (ge 1 (Qg (ri hm (λhm=>Qr (Qg (Qo (gr 1 (QY 1 Qf hm λf hm=>re 3 (Qg (bi hm λe j hm=>Xe (λd=>⟨sl d 30 [(0,(La p0)),(12,(La p1)),(13,(Qd (p1.length:Int))),(14,(Qd c)),(28,(Qp e))],[]⟩) (have hm:=j;gd (Qe 3 (gs 21 hm (λhm=>re 7 zf) (λhm=>Qe 3 (QY 1 Qf hm λg hm=>re 3 zf))))) (λd=>mr hm (λhm=>ge 1 (Qn zf)) (λhm=>Qr (gd (re 2 (SH _ _ hm _ kr)))))))))))) (λhm=>QO zf))))
def Rf(x:((fj)×(fj))):Option Bool:=
 match x with
 |(p0,p1)=>
 if(p1.length:Int)≠(p0.length:Int)then
  some false
 else
 (
 Yj (p1,p0,0)>>=λout=>
 match out with
 | .inl _=>
  some false
 | .inr (_)=>
  some true
 )
theorem Wt{p0 p1 r0}(hm:Rf (p0,p1)=some r0):FQ 204 [(Lb p0),(Lb p1)] (Qp r0):=by
 unfold Rf at hm;exact fp (fn:=f204) rfl (ge 1 (Qg (gr 1 (QZ Qf p1 (Qe 1 (QZ Qf p0 (re 1 (Eo hm (λhm=>ge 1 (Qn zf)) (λhm=>Qr (Qg (gr 1 (QZ Qf p1 (re 1 (Qo (rN hm (SH _) (λ_ d hm=>zf) λ_ d hm=>ge 1 (Qn zf))))))))))))))))
def Y8(x:(fj)):Option XJ:=
 match x with
 |p0=>
 YK p0>>=λc=>
 some (⟨c,p0⟩:XJ)
theorem T1{p0 r0}(hm:Y8 p0=some r0):FQ 198 [(Lb p0)] (.dat (XJ.toD r0)):=by
 unfold Y8 at hm;exact fp (fn:=f198) rfl (ge 1 (gr 1 (bi hm λd c hm=>cp (SB c) (re 3 (Qn zf)))))
def Zo(x:((fj)×(fj)×Int×Int)):Option (Int):=
 match x with
 |(p1,p0,d,c)=>
 if c<(if(p1.length:Int)<(p0.length:Int)then(p1.length:Int)else(p0.length:Int))then
  idx p0 c>>=λe=>
  idx p1 c>>=λf=>
  Zo (p1,p0,(W (d+(W (e*f)))),(W (c+1)))
 else
 some d
 partial_fixpoint
theorem Ta:∀x r,Zo x=some r->match x with|(p1,p0,c,e)=>LQ f224 224 [1,1,0,1,0,0] 0 ⟨kp 28 [(0,(La p0)),(1,(La p1)),(5,(Qd c)),(11,(Qd (if(p1.length:Int)<(p0.length:Int)then(p1.length:Int)else(p0.length:Int)))),(12,(Qd e))],[]⟩ (P1 (.exit 0) (λf d=>⟨sl d 28 [(5,(Qd f))],[]⟩) r):=by
 refine Zo.partial_correctness _ (λZo Ta x r hm=>?_);obtain⟨p1,p0,c,e⟩:=x;exact lp (ge 1 (Qg (ri hm (λhm=>Qr (Qg (Qo (ge 2 (ZP (Qe 3 (QY 1 Qf hm λg hm=>Qe 3 (QY 1 Qf hm λj hm=>re 4 ⟨kr,gd (re 2 (Ta _ _ hm _ kr))⟩)))))))) (λhm=>QO zf))))
def Jj(x:((fj)×(fj))):Option Int:=
 match x with
 |(p0,p1)=>
 Zo (p1,p0,0,0)>>=λc=>
 some c
theorem Un{p0 p1 r0}(hm:Jj (p0,p1)=some r0):FQ 224 [(Lb p0),(Lb p1)] (Qd r0):=by
 unfold Jj at hm;exact fp (fn:=f224) rfl (ge 1 (ge 1 (Qg (gr 1 (QZ Qf p0 (Qe 1 (QZ Qf p1 (QB rfl (λ_=>MS (k:=.i64) (m:=(p0.length:Int)) (n:=(p1.length:Int)) rfl kr kr) (re 1 (Qo (nA hm (Ta _) λc d hm=>ge 2 (Qn zf))))))))))))
def Ja(x:((fj)×(fj))):Option Int:=
 match x with
 |(p0,p1)=>
 Jj (p0,p1)>>=λc=>
 some c
theorem UP{p0 p1 r0}(hm:Ja (p0,p1)=some r0):FQ 205 [(Lb p0),(Lb p1)] (Qd r0):=by
 unfold Ja at hm;exact fp (fn:=f205) rfl (ge 1 (gr 2 (bi hm λd c hm=>cp (Un c) (re 1 (Qn zf)))))
def Jc(x:((fj)×(fj))):Option (Int×Bool):=
 match x with
 |(p0,p1)=>
 Rf (p0,p1)>>=λc=>
 if c=false then
  some (0,false)
 else
 Y8 p0>>=λv2=>
 Ja (v2.strides,p1)>>=λd=>
 some (d,true)
theorem Vg{p0 p1 r0 r1}(hm:Jc (p0,p1)=some (r0,r1)):FQ 173 [(Lb p0),(Lb p1)] (.tup [(Qd r0),(Qp r1)]):=by
 unfold Jc at hm;exact fp (fn:=f173) rfl (ge 2 (Qg (gr 2 (bi hm λd c hm=>cp (Wt c) (re 1 (HF hm (λhm=>ge 2 (Qn zf)) (λhm=>Qr (gr 1 (bi hm λv2 c hm=>cp (T1 c) (Qe 2 (bi hm λe c hm=>cp (UP c) (re 2 (Qn zf)))))))))))))
def X8(x:(Int×Int×Int×(fj)×Int×Int×Int)):Option (((fj)×Int)):=
 match x with
 |(q0,q1,q2,q3,q4,q5,q6)=>
 Qu q3>>=λc=>
 if q0=3 then
  some (c,q4)
 else
 some (c,q2)
theorem Vs{q0 q1 q2 q3 q4 q5 q6 v5001 v5002}(hm:X8 (q0,q1,q2,q3,q4,q5,q6)=some (v5001,v5002)):PC prog env 192 [(JX q0 q1 q2 q3 q4 q5 q6)] [(QA q0 q1 q2 q3 q4 q5 q6)] (.ptr 3 0) [(QA q0 q1 q2 q3 q4 q5 q6),(QA q0 q1 q2 q3 q4 q5 q6),(QG v5001),(.box [(Qd v5002),(.ms 2 1 0 v5001.length v5001.length),(Qd q0),(Qd q1),(Qd q2),(La q3),(Qd q4),(Qd q5),(Qd q6)])]:=by
 unfold X8 at hm;exact gB (fn:=f192) rfl (ge 2 (Qg (ZP (Qe 4 (bi hm λd c hm=>go 2 3 Qf (Qz c) (re 5 ⟨kr,Qg (ge 3 (sQ hm (λhm=>gd (re 7 (ge 2 (Qn zf)))) (λhm=>Qr (ge 2 (Qn zf)))))⟩))))))
def Jm(x:(Xt×(fj))):Option Int:=
 match x with
 |(p0,p1)=>
 Jj (p0.strides,p1)>>=λc=>
 some (W (p0.first+c))
theorem U5{p0 p1 r0}(hm:Jm (p0,p1)=some r0):FQ 206 [(Xt.toD p0),(Lb p1)] (Qd r0):=by
 unfold Jm at hm;exact fp (fn:=f206) rfl (ge 2 (Qg (ZP (Qe 5 (bi hm λd c hm=>cp (Un c) (re 2 ⟨kr,Qn zf⟩))))))
def RT(x:(Int×Int)):Option Int:=
 match x with
 |(p0,p1)=>
 if p1<=0 then
  some 0
 else
 mX p0 p1>>=λc=>
 if c<0 then
  some (W (c+p1))
 else
 some c
theorem WV{p0 p1 r0}(hm:RT (p0,p1)=some r0):FQ 207 [(Qf p0),(Qf p1)] (Qd r0):=by
 unfold RT at hm;exact fp (fn:=f207) rfl (ge 1 (Qg (ge 2 (ri hm (λhm=>ge 1 (Qn zf)) (λhm=>Qr (gr 2 (bi hm λd c hm=>QB rfl (λ_=>NT (a:=p0) (b:=p1) c rfl kr kr) (re 1 (Qg (ge 2 (ri hm (λhm=>gd (re 4 (ge 2 (Qn zf)))) (λhm=>Qr (ge 2 (Qn zf))))))))))))))
def Pd(x:(Qh×(fj))):Option (Int×Bool):=
 match x with
 |(p0,p1)=>
 X8 (p0.kind,p0.buffer,p0.base,p0.strides,p0.start,p0.step,p0.mod)>>=λ(d,v2)=>
 Jm ((⟨v2,d⟩:Xt),p1)>>=λc=>
 if p0.kind=2 then
  some (c,true)
 else
 if p0.kind=3 then
  RT (c,p0.mod)>>=λe=>
  some ((W (p0.base+(W (p0.step*e)))),true)
 else
 some (0,false)
theorem WB{p0 p1 r0 r1}(hm:Pd (p0,p1)=some (r0,r1)):FQ 174 [(Qh.toD p0),(Lb p1)] (.tup [(Qd r0),(Qp r1)]):=by
 unfold Pd at hm;exact fp (fn:=f174) rfl (ge 3 (Qg (gr 1 (uy hm λd v2 c hm=>Q5 (Vs c) (Qe 4 (bi hm λf c hm=>Vm (args:=[(.agg [(Qd v2),(.ms 2 1 0 d.length d.length)]),(La p1)]) (U5 c []) (ml (vp (fK kr (fK (kG (e:=3) Qf d rfl yB kr) mT))) (ml kr tu)) (re 1 (ge 2 (Qo (ge 2 (sQ hm (λhm=>ge 3 (Qn zf)) (λhm=>ge 2 (sQ hm (λhm=>Qg (ZP (Qe 7 (bi hm λg c hm=>cp (WV c) (re 4 ⟨kr,Qn zf⟩))))) (λhm=>Qr (ge 2 (Qn zf))))))))))))))))
def Yi(x:((List Qa)×(fj)×(List Qw)×(List Qw)×Int)):Option ((List Qw)):=
 match x with
 |(p0,p1,v2,g,f)=>
 if f<(p0.length:Int)then
  idx p0 f>>=λc=>
  XL (c.box.lo,c.box.hi)>>=λ(k,l)=>
  Is k l>>=λm=>
  yk (λ(j:fj) (d:(List Qw))=>
   Jc (p1,j)>>=λ(e,r)=>
   Pd (c.access,j)>>=λ(n,p)=>
   QR (0<=e/\(e).toNat<v2.length)>>=λ_=>
   idx d e>>=λs=>
   iL d e (⟨(!p),c.access.buffer,n⟩:Qw)>>=λq=>
   some q
  ) m g>>=λ(d:(List Qw))=>
  Yi (p0,p1,v2,d,(W (f+1)))
 else
 some g
 partial_fixpoint
theorem SR:∀x r,Yi x=some r->match x with|(p0,p1,v2,m,p)=>LQ f124 124 [1,1,0,1,0,0] 3 ⟨kp 55 [(3,(.ptr 0 0)),(5,(.ptr 2 0)),(16,(QX p0)),(17,(Qd (p0.length:Int))),(18,(Qd p))],[(.box [(La p1)]),(.mt 198 (mg v2) (cellsOf Qw.toD m)),(.box [(.ms 1 (mg v2) 0 v2.length v2.length)])]⟩ (P1 (.exit 0) (λu d=>⟨sl d 55 [(5,(.ptr 2 0))],[(.box [(La p1)]),(.mt 198 (mg v2) (cellsOf Qw.toD u)),(.box [(.ms 1 (mg v2) 0 v2.length v2.length)])]⟩) r):=by
 refine Yi.partial_correctness _ (λYi SR x r hm=>?_);obtain⟨p0,p1,v2,m,p⟩:=x
 exact lp (ge 1 (Qg (ri hm (λhm=>Qr (Qg (Qo (Qg (gd (QY 9 Qa.toD hm λf hm=>re 3 (gr 6 (uy hm λv w k hm=>cp (Vl k) (Q6 (Qo (bi hm λB k hm=>bi hm λj G hm=>VU (g:=(λa:fj=>fy.lst (a.map Qf))) (Hp:=λ(j:(List Qw))=>[(.box [(La p1)]),(.mt 198 (mg v2) (cellsOf Qw.toD j)),(.box [(.ms 1 (mg v2) 0 v2.length v2.length)]),(Zv f.box.lo f.box.hi f.access.kind f.access.buffer f.access.base f.access.strides f.access.start f.access.step f.access.mod)]) (gf:=202) (caps:=[(.iptr [(Lb v)]),(.iptr [(Lb w)])]) (fn:=f202) (c:=G0 f202) G kr kr kr rfl kr kr (D7 k) (λC j D hm=>gd (re 1 ⟨rfl,Qo (gr 2 (uy hm λq E k hm=>cp (Vg k) (re 5 (gr 3 (uy hm λz A k hm=>cp (WB k) (re 5 (gd (Qe 9 (gi hm λt hm=>QB rfl (λ_=>TA (e:=198) (n:=q) (tt:=1) (g:=(mg v2)) (len:=v2.length) (cap:=v2.length) (size:=3) t kr kr rfl kr kr) (bi hm λF I hm=>bi hm λs k hm=>Zz (λH=>H.set 1 (.mt 198 (mg v2) (cellsOf Qw.toD s))) rfl kr (λ_=>Uk Qw.toD (l:=j) (n:=q) (y:=(⟨(!A),f.access.buffer,z⟩:Qw)) (size:=3) k I Qw.fit kr kr rfl kr kr kr kr) (Q6 (by obtain rfl:=xt hm;exact⟨rfl,HT (sl:=kp 55 []) (fO [(.box [(La p1)]),(.mt 198 (mg v2) (cellsOf Qw.toD s)),(.box [(.ms 1 (mg v2) 0 v2.length v2.length)]),(Zv f.box.lo f.box.hi f.access.kind f.access.buffer f.access.base f.access.strides f.access.start f.access.step f.access.mod)] (λ_=>(fD kr (fD (fX Qw.toD _ _ _ _ _) (fD kr (fD kr iq))))) rfl)⟩))))))))))))⟩)) (gd (re 2 (SR _ _ hm _ (fO [(.box [(La p1)]),(.mt 198 (mg v2) (cellsOf Qw.toD j)),(.box [(.ms 1 (mg v2) 0 v2.length v2.length)])] (λ_=>(fD kr (fD (fX Qw.toD _ _ _ _ _) (fD kr iq)))) rfl))))))))))))))) (λhm=>QO zf))))
def Pn(x:((List Qa)×(fj))):Option (List Qw):=
 match x with
 |(p0,p1)=>
 Xf p1>>=λd=>
 jb 24 d (⟨false,0,0⟩:Qw)>>=λv2=>
 Yi (p0,p1,v2,v2,0)>>=λc=>
 QR (c.length=v2.length)>>=λ_=>
 some c
theorem VH{p0 p1 r0}(hm:Pn (p0,p1)=some r0):FQ 124 [(.lst ((List.map Qa.toD) p0)),(Lb p1)] (Nu r0):=by
 unfold Pn at hm;exact fp (fn:=f124) rfl (ge 2 (gr 1 (bi hm λj g hm=>cp (PG g) (bi hm λv2 g hm=>Zz (v:=.ms 1 (mg v2) 0 v2.length v2.length) (λH=>H++[.mt 198 (mg v2) (cellsOf Qw.toD v2)]) rfl kr (by intro K k;exact Wi 1 Qw.toD (z:=(⟨false,0,0⟩:Qw)) (n:=j) (bytes:=24) (e:=198) (size:=3) (os:=[]) g kr kr kr kr kr rfl kr rfl kr kr kr k) (re 2 (Qg (gr 1 (QZ Qa.toD p0 (re 1 (Qo (nA hm (SR _) (λf d hm=>ge 2 (Qn (gi hm λc hm=>(by obtain rfl:=xt hm;exact⟨trivial,JI [(.ms 1 (mg v2) 0 v2.length v2.length)] kr (Nt (IG (e:=198) Qw.toD f c yB kr))⟩)))) (hst:=(fO [(.box [(La p1)]),(.mt 198 (mg v2) (cellsOf Qw.toD v2)),(.box [(.ms 1 (mg v2) 0 v2.length v2.length)])] (λ_=>(fD kr (fD (fX Qw.toD _ _ _ _ _) (fD kr iq)))) rfl)))))))))))))
def PK(x:((List Qw)×Int)):Option Qs:=
 match x with
 |(p0,p1)=>
 idx p0 0>>=λc=>
 idx p0 0>>=λv2=>
 idx p0 0>>=λd=>
 ((if(p0.length:Int)>1 then
  some (!c.fill)
 else
 some false
 )>>=λ(e:Bool)=>
 (if e=true then
  idx p0 1>>=λf=>
  some (!f.fill)
 else
 some false
 )>>=λ(g:Bool)=>
 if g=true then
  idx p0 1>>=λj=>
  some (j.buffer==v2.buffer)
 else
 some false
 )>>=λ(k:Bool)=>
 if k=true then
  idx p0 1>>=λl=>
  some (⟨p1,1,c.fill,v2.buffer,d.offset,(W (l.offset - d.offset))⟩:Qs)
 else
 some (⟨p1,1,c.fill,v2.buffer,d.offset,0⟩:Qs)
theorem V2{p0 p1 r0}(hm:PK (p0,p1)=some r0):FQ 170 [(.lst ((List.map Qw.toD) p0)),(Qf p1)] (.dat (Qs.toD r0)):=by
 unfold PK at hm
 exact fp (fn:=f170) rfl (ge 1 (Qg (ZP (Qe 2 (QY 3 Qw.toD hm λe hm=>Qe 3 (QY 3 Qw.toD hm λv2 hm=>Qe 3 (QY 3 Qw.toD hm λf hm=>re 5 ⟨kr,Qg (Qg (bi hm λg c hm=>Xe (λd=>⟨sl d 53 [(0,(Nu p0)),(4,(.ptr 0 0)),(5,(.ptr 1 0)),(43,(Qp g))],[PL,(SV p1 e.fill v2.buffer f.offset)]⟩) (have hm:=c;Nx (Qe 1 (QZ Qw.toD p0 (Qe 2 (bi hm λk c hm=>Yy (j:=8) (λd=>⟨sl d 53 [(0,(Nu p0)),(4,(.ptr 0 0)),(5,(.ptr 1 0)),(27,(Qp k))],[PL,(SV p1 e.fill v2.buffer f.offset)]⟩) (λd=>Qe 1 (bi hm λl c hm=>Yy (j:=15) (λd=>⟨sl d 53 [(0,(Nu p0)),(4,(.ptr 0 0)),(5,(.ptr 1 0)),(34,(Qp l))],[PL,(SV p1 e.fill v2.buffer f.offset)]⟩) (λd=>Qe 1 (mU 35 hm (λhm=>Qe 1 (QY 3 Qw.toD hm λm hm=>re 6 ⟨kr,zf⟩)) (λhm=>re 8 ⟨kr,zf⟩))) (λhJ=>mU 28 c (λhm=>Qe 1 (QY 3 Qw.toD hm λn hm=>Qe 4 zf)) (λhm=>Qe 6 zf)))) (λhJ=>gs 23 c (λhm=>Qe 4 zf) (λhm=>Qe 4 zf))))))) (λd=>mr hm (λhm=>ZP (Qe 1 (QY 3 Qw.toD hm λp hm=>re 7 ⟨kr,ge 2 (Qn zf)⟩))) (λhm=>Qr (ge 2 (Qn zf))))))⟩)))))))
def JH(x:(Qs×Int)):Option Qw:=
 match x with
 |(p0,p1)=>
 if p0.fill=true then
  some (⟨true,0,0⟩:Qw)
 else
 some (⟨false,p0.buffer,(W (p0.offset+(W (p1*p0.step))))⟩:Qw)
theorem UA{p0 p1 r0}(hm:JH (p0,p1)=some r0):FQ 171 [(Qs.toD p0),(Qf p1)] (.dat (Qw.toD r0)):=by
 unfold JH at hm;exact fp (fn:=f171) rfl (ge 2 (Qg (ge 2 (mr hm (λhm=>ge 2 (Qn zf)) (λhm=>Qr (ge 11 (Qn zf)))))))
def XB(x:((List Qw)×Qs×(List Qs)×Int×Int)):Option ((Int×(List Qs)×Int)):=
 match x with
 |(p0,c,j,d,g)=>
 (if(W (g+1))=(p0.length:Int)then
  some true
 else
 idx p0 (W (g+1))>>=λe=>
 JH ((⟨c.at0_,d,c.fill,c.buffer,c.offset,c.step⟩:Qs),d)>>=λf=>
 some (!((e.fill==f.fill) &&((e.buffer==f.buffer) &&((e.offset==f.offset) &&true))))
 )>>=λ(k:Bool)=>
 if k=true then
  app 48 j ([(⟨c.at0_,d,c.fill,c.buffer,c.offset,c.step⟩:Qs)]:List Qs)>>=λl=>
  some (d,l,(W (g+1)))
 else
 XB (p0,c,j,(W (d+1)),(W (g+1)))
 partial_fixpoint
theorem SF:∀x r,XB x=some r->match x with|(p0,c,g,j,k)=>LQ f123 123 [1,0,1,1,0,1,0,0,1,0,1,0,0] 2 ⟨kp 41 [(0,(Nu p0)),(3,(PH g)),(4,(Qd k)),(5,(.ptr 1 0))],[(.tok 193 g.length),(LD c.at0_ j c.fill c.buffer c.offset c.step)]⟩ (P1 (.exit 1) (λ(m,l,n) d=>⟨sl d 41 [(0,(Nu p0)),(3,(PH l)),(4,(Qd n))],[(.tok 193 l.length),(LD c.at0_ m c.fill c.buffer c.offset c.step)]⟩) r):=by
 refine XB.partial_correctness _ (λXB SF x r hm=>?_);obtain⟨p0,c,g,j,k⟩:=x
 exact lp (Qo (Qg (ge 3 (Qg (bi hm λp u hm=>Xe (λd=>⟨sl d 41 [(0,(Nu p0)),(3,(PH g)),(4,(Qd (W (k+1)))),(5,(.ptr 1 0)),(31,(Qp p))],[(.tok 193 g.length),(LD c.at0_ j c.fill c.buffer c.offset c.step)]⟩) (have hm:=u;ZP (Qe 2 (QZ Qw.toD p0 (Qe 2 (HD 21 hm (λhm=>re 10 ⟨kr,zf⟩) (λhm=>Qe 2 (QY 3 Qw.toD hm λe hm=>Qe 4 (bi hm λf s hm=>cp (UA s) (QB rfl (λ_=>Wf (t:=198) (xs:=#[.bool e.fill,.int .i64 e.buffer,.int .i64 e.offset]) (ys:=#[.bool f.fill,.int .i64 f.buffer,.int .i64 f.offset]) (b:=((e.fill==f.fill) &&((e.buffer==f.buffer) &&((e.offset==f.offset) &&true)))) rfl kr kr (OR (fs:=prog.fieldsOf 198) kr kr kr kr)) (re 1 ⟨kr,zf⟩)))))))))) (λd=>mr hm (λhm=>gr 3 (bi hm λq s hm=>Jh 193 6 48 0 Qs.toD g ([(⟨c.at0_,j,c.fill,c.buffer,c.offset,c.step⟩:Qs)]:List Qs) q (xs:=(List.map Qs.toD) g) (es:=(List.map Qs.toD) ([(⟨c.at0_,j,c.fill,c.buffer,c.offset,c.step⟩:Qs)]:List Qs)) (L:=(List.map Qs.toD)) yB rfl rfl Qs.fit s (re 1 (QO zf)))) (λhm=>Qr (gd (re 5 (SF _ _ hm _ kr))))))))))
def XA(x:((List Qw)×(List Qs)×Int)):Option ((List Qs)):=
 match x with
 |(p0,d,c)=>
 if c<(p0.length:Int)then
  sub p0 c (p0.length:Int)>>=λj=>
  PK (j,c)>>=λe=>
  XB (p0,e,d,e.len,c)>>=λ(k,f,g)=>
  XA (p0,f,g)
 else
 some d
 partial_fixpoint
theorem SM:∀x r,XA x=some r->match x with|(p0,e,c)=>LQ f123 123 [1,0,1,1,0,1,0,0] 1 ⟨kp 41 [(0,(Nu p0)),(3,(PH e)),(4,(Qd c))],[(.tok 193 e.length)]⟩ (P1 (.exit 0) (λf d=>⟨sl d 41 [(3,(PH f))],[(.tok 193 f.length)]⟩) r):=by
 refine XA.partial_correctness _ (λXA SM x r hm=>?_);obtain⟨p0,e,c⟩:=x;exact lp (Qg (gr 2 (QZ Qw.toD p0 (re 1 (ri hm (λhm=>Qr (Qo (gr 2 (bi hm λg j hm=>WS 3 Qw.toD p0 g c (p0.length:Int) (es:=(List.map Qw.toD) p0) (L:=(List.map Qw.toD)) (a:=KJ c) (b:=some ((List.map Qw.toD) p0).length) yB rfl (λ_=>by first|rfl|exact DM (Qw.fit _)) j rfl (Or.inr ⟨rfl,rfl⟩) (Qe 1 (bi hm λn j hm=>cp (V2 j) (re 2 (Qo (nA hm (SF _) λ⟨k,l,m⟩ d hm=>SM _ _ hm _ kr))))))))) (λhm=>QO zf))))))
def Pf(x:(List Qw)):Option (List Qs):=
 match x with
 |p0=>
 XA (p0,([]:List Qs),0)>>=λc=>
 some c
theorem VB{p0 r0}(hm:Pf p0=some r0):FQ 123 [(.lst ((List.map Qw.toD) p0))] (Xg r0):=by
 unfold Pf at hm;exact fp (fn:=f123) rfl (ge 1 (VV (ge 1 (Qg (WH (Qg (ge 1 (Qo (nA hm (SM _) λc d hm=>ge 2 (Qn zf))))))))))
def J0(x:(fj)):Option (List Qa):=
 match x with
 |p0=>
 Yu p0>>=λ(e,v2,c)=>
 Zq ([(⟨(⟨v2,c⟩:Ql),(⟨1,0,0,([]:(fj)),0,0,0⟩:Qh)⟩:Qa)]:List Qa)>>=λd=>
 some d
theorem WC{p0 r0}(hm:J0 p0=some r0):FQ 166 [(Lb p0)] (QX r0):=by
 unfold J0 at hm;exact fp (fn:=f166) rfl (ge 1 (gr 1 (Nd hm λg v2 c d hm=>QB (v:=.dat (.agg [(Lb v2),(Lb c)])) rfl (λ_=>Jg (f:=111) (first:=#[]) (cap:=#[]) (e:=3) (ow':=[]) (ds:=[(Lb p0)]) (p:=(.agg [(.ms 1 g 0 v2.length v2.length),(.ms 2 1 0 c.length c.length)])) (H1:=(P6 g v2.length c.length v2 c)) rfl kr kr kr kr (JT d) (vp (fK (kG (e:=3) Qf v2 rfl yB kr) (fK (kG (e:=3) Qf c rfl yB kr) mT)))) (Qe 3 (bi hm λj d hm=>cp (XN d) (re 1 (Qn zf)))))))
def YJ(x:((fj)×Int×(fj)×Int)):Option ((fj)):=
 match x with
 |(p0,p1,d,c)=>
 if c<(p0.length:Int)then
  idx p0 c>>=λe=>
  app 8 d ([(W (e*p1))]:fj)>>=λf=>
  YJ (p0,p1,f,(W (c+1)))
 else
 some d
 partial_fixpoint
theorem Tq:∀x r,YJ x=some r->match x with|(p0,p1,c,e)=>LQ f197 197 [1,1,0,1,0,0] 1 ⟨kp 22 [(1,(Qd p1)),(5,(Pv c)),(8,(La p0)),(9,(Qd (p0.length:Int))),(10,(Qd e))],[(.tok 3 c.length)]⟩ (P1 (.exit 0) (λf d=>⟨sl d 22 [(5,(Pv f))],[(.tok 3 f.length)]⟩) r):=by
 refine YJ.partial_correctness _ (λYJ Tq x r hm=>?_);obtain⟨p0,p1,c,e⟩:=x;exact lp (ge 1 (Qg (ri hm (λhm=>Qr (Qg (Qo (Qg (gd (QY 1 Qf hm λg hm=>re 2 (gd (Qe 5 (bi hm λj k hm=>Jh 3 1 8 0 Qf c ([(W (g*p1))]:fj) j (xs:=(List.map Qf) c) (es:=(List.map Qf) ([(W (g*p1))]:fj)) (L:=(List.map Qf)) yB rfl rfl yB k (re 1 (gd (re 2 (Tq _ _ hm _ kr))))))))))))) (λhm=>QO zf))))
def PJ(x:((fj)×Int)):Option fj:=
 match x with
 |(p0,p1)=>
 YJ (p0,p1,([]:fj),0)>>=λc=>
 some c
theorem Wd{p0 p1 r0}(hm:PJ (p0,p1)=some r0):FQ 197 [(Lb p0),(Qf p1)] (La r0):=by
 unfold PJ at hm;exact fp (fn:=f197) rfl (ge 1 (ge 1 (Qg (gr 1 (QZ Qf p0 (re 1 (Qo (nA hm (Tq _) λc d hm=>ge 2 (Qn zf)))))))))
def PM(x:(Qs×(fj))):Option Qh:=
 match x with
 |(p0,p1)=>
 YK p1>>=λc=>
 if p0.fill=true then
  some (⟨1,0,0,([]:(fj)),0,0,0⟩:Qh)
 else
 (if p0.step=0 then
  some true
 else
 Xf p1>>=λd=>
 some (decide (d<=p0.len))
 )>>=λ(v2:Bool)=>
 if v2=true then
  PJ (c,p0.step)>>=λe=>
  some (⟨2,p0.buffer,p0.offset,e,0,0,0⟩:Qh)
 else
 some (⟨3,p0.buffer,p0.offset,c,0,p0.step,p0.len⟩:Qh)
theorem UF{p0 p1 r0}(hm:PM (p0,p1)=some r0):FQ 167 [(Qs.toD p0),(Lb p1)] (.dat (Qh.toD r0)):=by
 unfold PM at hm;exact fp (fn:=f167) rfl (ge 2 (gr 1 (bi hm λe c hm=>cp (SB c) (re 1 (Qg (Qo (ge 3 (mr hm (λhm=>ge 2 (Qn zf)) (λhm=>Qg (bi hm λv2 f hm=>Xe (λd=>⟨sl d 42 [(2,(.ptr 0 0)),(4,(.ptr 1 0)),(5,(La e)),(12,(Qp v2))],[(LD p0.at0_ p0.len p0.fill p0.buffer p0.offset p0.step),Zc]⟩) (have hm:=f;ZP (Qe 4 (HD 16 hm (λhm=>re 7 ⟨kr,zf⟩) (λhm=>Qe 1 (bi hm λg c hm=>cp (PG c) (re 5 ⟨kr,zf⟩)))))) (λd=>mr hm (λhm=>Qg (ZP (Qe 7 (bi hm λj c hm=>cp (Wd c) (re 2 ⟨kr,Qn zf⟩))))) (λhm=>Qr (ge 11 (Qn zf))))))))))))))
def JE(x:Int):Option Bool:=
 match x with
 |p0=>
 some (p0 !=p0)
theorem Um{p0 r0}(hm:JE p0=some r0):FQ 175 [(Qf p0)] (Qp r0):=by
 unfold JE at hm;exact fp (fn:=f175) rfl (ge 1 (ge 4 (Qn zf)))
def XY(x:(Int×Int)):Option Int:=
 match x with
 |(p0,p1)=>
 JE p0>>=λc=>
 JE p1>>=λv2=>
 if c=true then
  if v2=true then
   some 0
  else
  some (-1)
 else
 if v2=true then
  some 1
 else
 if p0<p1 then
  some (-1)
 else
 if p0>p1 then
  some 1
 else
 some 0
theorem Wh{p0 p1 r0}(hm:XY (p0,p1)=some r0):FQ 133 [(Qf p0),(Qf p1)] (Qd r0):=by
 unfold XY at hm;exact fp (fn:=f133) rfl (ge 1 (gr 1 (bi hm λd c hm=>cp (Um c) (re 1 (gr 1 (bi hm λv2 c hm=>cp (Um c) (re 1 (Qg (ge 1 (mr hm (λhm=>Qg (ge 1 (mr hm (λhm=>ge 1 (Qn zf)) (λhm=>Qr (ge 1 (Qn zf)))))) (λhm=>Qr (Qg (ge 1 (mr hm (λhm=>ge 1 (Qn zf)) (λhm=>Qr (Qg (ge 3 (ri hm (λhm=>ge 1 (Qn zf)) (λhm=>Qr (Qg (ge 3 (ri hm (λhm=>ge 1 (Qn zf)) (λhm=>Qr (ge 1 (Qn zf)))))))))))))))))))))))))
def X6(x:(Qs×Int)):Option Int:=
 match x with
 |(p0,p1)=>
 XY (p0.at0_,p1)>>=λc=>
 some c
theorem TI{p0 p1 r0}(hm:X6 (p0,p1)=some r0):FQ 223 [(Qs.toD p0),(Qf p1)] (Qd r0):=by
 unfold X6 at hm;exact fp (fn:=f223) rfl (ge 2 (gr 3 (bi hm λd c hm=>cp (Wh c) (re 1 (Qn zf)))))
def Qt(x:((List Qs)×Int×Int×Int)):Option (Int):=
 match x with
 |(p0,p1,c,d)=>
 if c<d then
  idx p0 (W ((Int.fdiv (IntKind.u64.wrap ((W (c+d)))) 2)))>>=λe=>
  X6 (e,p1)>>=λf=>
  if f<0 then
   Qt (p0,p1,(W ((W ((Int.fdiv (IntKind.u64.wrap ((W (c+d)))) 2)))+1)),d)
  else
  Qt (p0,p1,c,(W ((Int.fdiv (IntKind.u64.wrap ((W (c+d)))) 2))))
 else
 some c
 partial_fixpoint
theorem QT:∀x r,Qt x=some r->match x with|(p0,p1,c,e)=>LQ f222 222 [1,1,1,0,0,0] 0 ⟨kp 49 [(0,(Xg p0)),(1,(Qd p1)),(2,(.dat (.raw (.func (.func 223) #[] #[])))),(8,(Qd (p0.length:Int))),(9,(Qd c)),(10,(Qd e))],[]⟩ (P1 (.exit 0) (λf d=>⟨sl d 49 [(0,(Xg p0)),(1,(Qd p1)),(2,(.dat (.raw (.func (.func 223) #[] #[])))),(8,(Qd (p0.length:Int))),(9,(Qd f))],[]⟩) r):=by
 refine Qt.partial_correctness _ (λQt QT x r hm=>?_);obtain⟨p0,p1,c,e⟩:=x;exact lp (Qg (ge 3 (ri hm (λhm=>Qr (Qo (ge 7 (gr 3 (QY 6 Qs.toD hm λg hm=>Qe 2 (bi hm λj k hm=>cp (TI k) (re 1 (ri hm (λhm=>gd (re 3 (QT _ _ hm _ kr))) (λhm=>gd (re 2 (QT _ _ hm _ kr))))))))))) (λhm=>QO zf))))
def QK(x:((List Qs)×Int)):Option (Int×Bool):=
 match x with
 |(p0,p1)=>
 Qt (p0,p1,0,(p0.length:Int))>>=λc=>
 if c<(p0.length:Int)then
  idx p0 c>>=λd=>
  X6 (d,p1)>>=λe=>
  some (c,(e==0))
 else
 some (c,false)
theorem Y6{p0 p1 r0 r1}(hm:QK (p0,p1)=some (r0,r1)):FQ 222 [(.lst ((List.map Qs.toD) p0)),(Qf p1),(.raw (.func (.func 223) #[] #[]))] (.tup [(Qd r0),(Qp r1)]):=by
 unfold QK at hm;exact fp (fn:=f222) rfl (ge 2 (gr 1 (QZ Qs.toD p0 (re 1 (ge 3 (Qg (Qo (nA hm (QT _) λc d hm=>gr 5 (gs 39 hm (λhm=>Qe 3 (QY 6 Qs.toD hm λe hm=>Qe 2 (bi hm λf g hm=>cp (TI g) (re 4 (Qn zf))))) (λhm=>re 11 (Qn zf)))))))))))
def J5(x:((List Qs)×Int)):Option (Qs×Int×Bool):=
 match x with
 |(p0,p1)=>
 QK (p0,p1)>>=λ(d,v2)=>
 (if v2=false then
  some (W (d - 1))
 else
 some d
 )>>=λ(c:Int)=>
 (if c<0 then
  some true
 else
 idx p0 c>>=λe=>
 idx p0 c>>=λf=>
 some (decide (p1>=(W (e.at0_+f.len))))
 )>>=λ(g:Bool)=>
 if g=true then
  some ((⟨0,0,false,0,0,0⟩:Qs),0,false)
 else
 idx p0 c>>=λj=>
 idx p0 c>>=λk=>
 some (j,(W (p1 - k.at0_)),true)
theorem Ua{p0 p1 r0 r1 r2}(hm:J5 (p0,p1)=some (r0,r1,r2)):FQ 200 [(.lst ((List.map Qs.toD) p0)),(Qf p1)] (.tup [(.dat (Qs.toD r0)),(Qd r1),(Qp r2)]):=by
 unfold J5 at hm;exact fp (fn:=f200) rfl (ge 3 (gr 2 (uy hm λj v2 f hm=>cp (Y6 f) (re 5 (Qg (ge 2 (bi hm λe c hm=>Xe (λd=>⟨sl d 48 [(0,(Xg p0)),(1,(Qd p1)),(4,(.ptr 0 0)),(7,(Qd e))],[PL]⟩) (have hm:=c;HF hm (λhm=>gd (re 3 zf)) (λhm=>Qr zf)) (λd=>Qg (Qg (bi hm λg c hm=>Xe (λd=>⟨sl d 48 [(0,(Xg p0)),(1,(Qd p1)),(4,(.ptr 0 0)),(7,(Qd e)),(35,(Qp g))],[PL]⟩) (have hm:=c;ZP (Qe 3 (gs 21 hm (λhm=>re 14 ⟨kr,zf⟩) (λhm=>Qe 3 (QY 6 Qs.toD hm λk hm=>Qe 4 (QY 6 Qs.toD hm λl hm=>re 5 ⟨kr,zf⟩)))))) (λd=>mr hm (λhm=>ge 4 (Qn zf)) (λhm=>Qr (Qg (ZP (Qe 2 (QY 6 Qs.toD hm λm hm=>Qe 4 (QY 6 Qs.toD hm λn hm=>re 6 ⟨kr,Qn zf⟩)))))))))))))))))
def Jl(x:(Qs×Int×(fj))):Option Qh:=
 match x with
 |(p0,p1,c)=>
 if p0.fill=true then
  some (⟨1,0,0,([]:(fj)),0,0,0⟩:Qh)
 else
 jb 8 (c.length:Int) 0>>=λd=>
 if(W ((c.length:Int) - 1))>=0 then
  idx d (W ((c.length:Int) - 1))>>=λv2=>
  iL d (W ((c.length:Int) - 1)) p0.step>>=λe=>
  idx c (W ((c.length:Int) - 1))>>=λf=>
  QR (e.length=d.length)>>=λ_=>
  some (⟨2,p0.buffer,(W ((W (p0.offset+(W (p1*p0.step)))) - (W (p0.step*f)))),e,0,0,0⟩:Qh)
 else
 some (⟨2,p0.buffer,(W (p0.offset+(W (p1*p0.step)))),d,0,0,0⟩:Qh)
theorem Uj{p0 p1 p2 r0}(hm:Jl (p0,p1,p2)=some r0):V6 201 [(Qs.toD p0),(Qf p1),(Lb p2)] (.dat (Qh.toD r0)):=by
 unfold Jl at hm
 exact Vc (fn:=f201) rfl (ge 2 (Qg (ge 2 (mr hm (λhm=>ge 2 (Qn zf)) (λhm=>Qr (Qg (ZP (Qe 10 (QZ Qf p2 (bi hm λc d hm=>Zz (v:=.arr 2 0 c.length c.length) (λH=>H++[.box (cellsOf Qf c)]) rfl kr (by intro K j;exact Sd 2 Qf (z:=0) (n:=(p2.length:Int)) (bytes:=8) d (e:=3) kr kr kr kr rfl rfl kr kr j) (re 3 ⟨kr,Qg (gr 1 (QZ Qf p2 (re 2 (ge 2 (ri hm (λhm=>gr 5 (bi hm λv2 d hm=>QB rfl (λ_=>P0 (e:=3) (l:=c) (n:=(W ((p2.length:Int) - 1))) (i:=2) (cap:=c.length) (m:=c.length) d rfl kr kr rfl kr kr) (bi hm λg d hm=>Zz (λH=>H.set 2 (.box (cellsOf Qf g))) rfl kr (λ_=>Rz Qf (l:=c) (n:=(W ((p2.length:Int) - 1))) (y:=p0.step) d yB kr rfl kr kr kr kr) (Q6 (ZP (Qe 6 (QY 1 Qf hm λk hm=>re 5 ⟨kr,ge 2 (Qn (gi hm λf hm=>(by obtain rfl:=xt hm;exact⟨trivial,vN [(.agg [(Qd 2),(Qd p0.buffer),(Qd (W ((W (p0.offset+(W (p1*p0.step)))) - (W (p0.step*k))))),(.arr 2 0 c.length c.length),(Qd 0),(Qd 0),(Qd 0)])] kr (tC (fK kr (fK kr (fK kr (fK (qi Qf g f yB kr) (fK kr (fK kr (fK kr mT)))))))) (Lj (kk kr (kk kr (kk kr (kk (KG Qf g f yB kr) (kk kr (kk kr (kk kr If))))))))⟩)))⟩))))))) (λhm=>Qr (ge 2 (Qn (by obtain rfl:=xt hm;exact⟨trivial,vN [(.agg [(Qd 2),(Qd p0.buffer),(Qd (W (p0.offset+(W (p1*p0.step))))),(.arr 2 0 c.length c.length),(Qd 0),(Qd 0),(Qd 0)])] kr (tC (fK kr (fK kr (fK kr (fK (qi Qf c rfl yB kr) (fK kr (fK kr (fK kr mT)))))))) (Lj (kk kr (kk kr (kk kr (kk (KG Qf c rfl yB kr) (kk kr (kk kr (kk kr If))))))))⟩)))))))))⟩)))))))))))
def Q1(x:((fj)×(fj)×Nat×(fj)×(fj)×Int×Int)):Option ((fj)):=
 match x with
 |(q0,l,q3,q1,d,e,c)=>
 if c<(q0.length:Int)then
  idx q0 c>>=λf=>
  A5 e f>>=λg=>
  QR (d.length=l.length)>>=λ_=>
  idx d c>>=λm=>
  iL d c g>>=λj=>
  mX e f>>=λk=>
  Q1 (q0,l,q3,q1,j,k,(W (c+1)))
 else
 some d
 partial_fixpoint
theorem Xo:∀x r,Q1 x=some r->match x with|(q0,p,q3,q1,c,f,g)=>LQ f199 199 [1,1,0,1,0,0] 3 ⟨kp 31 [(1,(Qd f)),(5,(.arr 2 0 p.length p.length)),(13,(La q0)),(14,(Qd (q0.length:Int))),(15,(Qd g))],(Oy q3 q0 q1 c)⟩ (P1 (.exit 0) (λt d=>⟨sl d 31 [(5,(.arr 2 0 p.length p.length))],(Oy q3 q0 q1 t)⟩) r):=by
 refine Q1.partial_correctness _ (λQ1 Xo x r hm=>?_);obtain⟨q0,p,q3,q1,c,f,g⟩:=x;exact lp (ge 1 (Qg (ri hm (λhm=>Qr (Qg (Qo (gr 1 (QY 1 Qf hm λj hm=>re 3 (gr 4 (bi hm λu q hm=>QB rfl (λ_=>T3 (a:=f) (b:=j) q rfl kr kr) (gi hm λs hm=>bi hm λv q hm=>QB rfl (λ_=>P0 (e:=3) (l:=c) (n:=g) (i:=2) (cap:=p.length) (m:=p.length) q s kr kr rfl kr kr) (bi hm λk q hm=>Zz (λH=>H.set 2 (.box (cellsOf Qf k))) rfl kr (λ_=>Rz Qf (l:=c) (n:=g) (y:=u) q yB kr rfl kr kr kr kr) (Q6 (gd (Qe 2 (bi hm λw q hm=>QB rfl (λ_=>NT (a:=f) (b:=j) q rfl kr kr) (re 1 (gd (re 2 (Xo _ _ hm _ (fO (Oy q3 q0 q1 k) (λ_=>(fD kr (fD kr (fD (kZ Qf _ _ _) iq)))) rfl)))))))))))))))))) (λhm=>QO zf))))
def YT(x:((fj)×(fj)×Int×Nat)):Option (((fj)×Nat)):=
 match x with
 |(q0,q1,q2,q3)=>
 jb 8 (q1.length:Int) 0>>=λd=>
 Q1 (q0,d,q3,q1,d,q2,0)>>=λc=>
 some (c,d.length)
theorem VD{q0 q1 q2 q3 v5001 v5002}(hm:YT (q0,q1,q2,q3)=some (v5001,v5002)):PC prog env 199 [(.dat (.agg [(Lb q0),(Lb q1)])),(Qd q2)] [(.tok 62 q3)] (.arr 2 0 v5002 v5002) (Oy q3 q0 q1 v5001):=by
 unfold YT at hm;exact gB (fn:=f199) rfl (ge 2 (gr 2 (QZ Qf q1 (bi hm λc g hm=>Zz (v:=.arr 2 0 c.length c.length) (λH=>H++[.box (cellsOf Qf c)]) rfl kr (by intro K j;exact Sd 2 Qf (z:=0) (n:=(q1.length:Int)) (bytes:=8) g (e:=3) kr kr kr kr rfl rfl kr kr j) (re 1 (Qg (gr 2 (QZ Qf q0 (re 1 (Qo (nA hm (Xo _) (λf d hm=>ge 2 (Qn zf)) (hst:=(fO (Oy q3 q0 q1 c) (λ_=>(fD kr (fD kr (fD (kZ Qf _ _ _) iq)))) rfl)))))))))))))
def Y0(x:((fj)×Int×Nat)):Option (Unit⊕ ((fj)×(fj)×(fj)×Nat)):=
 match x with
 |(q0,q1,q2)=>
 (if q1<0 then
  some true
 else
 Xf q0>>=λv2=>
 some (decide (q1>=v2))
 )>>=λ(d:Bool)=>
 if d=true then
  some (Sum.inl ())
 else
 Y8 q0>>=λc=>
 YT (c.strides,c.dims,q1,q2)>>=λ(e,f)=>
 some (Sum.inr (e,c.strides,c.dims,f))
theorem T8{q0 q1 q2 r}(hm:Y0 (q0,q1,q2)=some r):PC prog env 168 [(La q0),(Qd q1)] [(.tok 62 q2)] (match r with|.inl _=>(.tup [Ea,(Qp false)])|.inr ((e,f,g,c))=>(.tup [(.arr 2 0 c c),(Qp true)])) (match r with|.inl _=>[(.tok 62 q2)]|.inr ((e,f,g,c))=>(Oy q2 f g e)):=by
 unfold Y0 at hm;exact gB (fn:=f168) rfl (ge 2 (Qg (Qg (bi hm λk l hm=>Xe (λd=>⟨sl d 18 [(0,(La q0)),(1,(Qd q1)),(13,(Qp k))],[(.tok 62 q2)]⟩) (have hm:=l;gd (Qe 3 (gs 8 hm (λhm=>re 5 zf) (λhm=>Qe 2 (bi hm λv2 j hm=>cp (PG j) (re 2 zf)))))) (λd=>mr hm (λhm=>ge 2 (Qn zf)) (λhm=>Qr (gr 1 (bi hm λm j hm=>cp (T1 j) (Qe 1 (uy hm λn p j hm=>Q5 (VD j) (re 2 (Qn zf))))))))))))
def Xy(x:((fj)×(List Qs)×Int×Int×Int×(List Qa)×Int×Qs×Nat×(fj)×(fj)×Int)):Option ((fj)):=
 match x with
 |(e,q0,q1,j,k,l,m,n,q4,p,c,d)=>
 if d<(e.length:Int)then
  QR (c.length=e.length)>>=λ_=>
  idx c d>>=λq=>
  idx c d>>=λf=>
  QR (c.length=e.length)>>=λ_=>
  idx c d>>=λr=>
  iL c d (W (f+1))>>=λg=>
  Xy (e,q0,q1,j,k,l,m,n,q4,p,g,(W (d+1)))
 else
 some c
 partial_fixpoint
theorem SX:∀x r,Xy x=some r->match x with|(f,q0,q1,w,p,t,q,c,q4,s,u,m)=>LQ f169 169 [1,1,0,0,0,1,0,1,1,1,0,1,0,0] 6 ⟨kp 96 [(0,(Xg q0)),(1,(Qd q1)),(2,(Qd w)),(3,(Qd p)),(4,Ea),(11,(PN t)),(12,(.ptr 2 0)),(13,(Qd q)),(15,(Qd (if(W (c.len - q))<p then(W (c.len - q))else p))),(16,(.ptr 5 0)),(44,(Qd (f.length:Int))),(45,(Qd m))],(RD q4 t.length c.at0_ c.len c.fill c.buffer c.offset c.step s u s.length f.length)⟩ (P1 (.exit 2) (λE d=>⟨sl d 96 [(0,(Xg q0)),(1,(Qd q1)),(2,(Qd w)),(3,(Qd p)),(4,Ea),(11,(PN t)),(12,(.ptr 2 0)),(13,(Qd q)),(15,(Qd (if(W (c.len - q))<p then(W (c.len - q))else p))),(16,(.ptr 5 0))],(RD q4 t.length c.at0_ c.len c.fill c.buffer c.offset c.step s E s.length f.length)⟩) r):=by
 refine Xy.partial_correctness _ (λXy SX x r hm=>?_);obtain⟨f,q0,q1,w,p,t,q,c,q4,s,u,m⟩:=x
 exact lp (ge 1 (Qg (ri hm (λhm=>Qr (Qg (Qo (ge 2 (gd (Qe 3 (gi hm λB hm=>bi hm λF C hm=>QB rfl (λ_=>Q9 (e:=3) (n:=m) (j:=(m).toNat) (tt:=4) (g:=1) (lo:=0) (len:=f.length) (cap:=f.length) (k:=.i64) kr kr rfl kr kr (gx C) (zA (gV C) B)) (bi hm λz C hm=>QB rfl (λ_=>Xv (tt:=4) (g:=1) (j:=(0+(m).toNat)) (e:=3) (cs:=cellsOf Qf u) (v:=.dat (Qf z)) kr kr rfl kr (ZN kr) (gK Qf C)) (Qe 1 (gi hm λD hm=>bi hm λG C hm=>QB rfl (λ_=>Q9 (e:=3) (n:=m) (j:=(m).toNat) (tt:=4) (g:=1) (lo:=0) (len:=f.length) (cap:=f.length) (k:=.i64) kr kr rfl kr kr (gx C) (zA (gV C) D)) (bi hm λA C hm=>Zz (λH=>H.set 4 (QG A)) rfl kr (λ_=>D1 Qf (l:=u) (n:=m) (y:=(W (z+1))) C yB kr rfl kr kr kr kr) (Q6 (gd (re 2 (SX _ _ hm _ (fO (RD q4 t.length c.at0_ c.len c.fill c.buffer c.offset c.step s A s.length f.length) (λ_=>(fD kr (fD kr (fD kr (fD (fX Qf _ _ _ _ _) (fD (fX Qf _ _ _ _ _) (fD kr iq))))))) rfl)))))))))))))))) (λhm=>QO zf))))
def Xx(x:(Int×(List Qs)×Nat×Int×Int×(List Qa))):Option ((List Qa)):=
 match x with
 |(q1,q0,q4,f,c,g)=>
 if c>0 then
  mX f q1>>=λp=>
  J5 (q0,p)>>=λ(d,e,q)=>
  Qu ([]:fj)>>=λl=>
  Qu ([]:fj)>>=λj=>
  Xy (j,q0,q1,f,c,g,e,d,q4,l,j,0)>>=λk=>
  Jl (d,e,([]:(fj)))>>=λm=>
  QR (k.length=j.length)>>=λ_=>
  app 120 g ([(⟨(⟨l,k⟩:Ql),m⟩:Qa)]:List Qa)>>=λn=>
  Xx (q1,q0,q4,(W (f+(if(W (d.len - e))<c then(W (d.len - e))else c))),(W (c - (if(W (d.len - e))<c then(W (d.len - e))else c))),n)
 else
 some g
 partial_fixpoint
theorem Ss:∀x r,Xx x=some r->match x with|(q1,q0,q4,p,q,g)=>LQ f169 169 [1,1,0,0,0] 2 ⟨kp 96 [(0,(Xg q0)),(1,(Qd q1)),(2,(Qd p)),(3,(Qd q)),(4,Ea),(11,(PN g))],[(.tok 62 q4),(.tok 62 g.length)]⟩ (P1 (.exit 0) (λu d=>⟨sl d 96 [(11,(PN u))],[(.tok 62 q4),(.tok 62 u.length)]⟩) r):=by
 refine Xx.partial_correctness _ (λXx Ss x r hm=>?_);obtain⟨q1,q0,q4,p,q,g⟩:=x
 exact lp (Qg (ge 2 (ri hm (λhm=>Qr (Qo (gr 3 (bi hm λz s hm=>QB rfl (λ_=>NT (a:=p) (b:=q1) s rfl kr kr) (Nd hm λf y A s hm=>cp (Ua s) (re 8 (gr 5 (QB rfl (λ_=>MS (k:=.i64) (m:=q) (n:=(W (f.len - y))) rfl kr kr) (re 1 (gr 1 (bi hm λe s hm=>go 3 3 Qf (Qz s) (Qe 1 (bi hm λj s hm=>go 4 3 Qf (Qz s) (re 3 (Qg (gr 2 (Qe 1 (re 1 (Qo (nA hm (SX _) (λl d hm=>Qg (ZP (Qe 4 (bi hm λc s hm=>cp (U6 (Uj s)) (re 3 ⟨kr,ge 8 (Qg (gr 1 (Qe 1 (re 2 (ge 2 (He kr (Qr (gd (Qe 1 (gi hm λt hm=>Zz (v:=(OP e l c.kind c.buffer c.base c.strides c.start c.step c.mod)) (λH=>((H.set 3 (.mt 3 (1+1) [])).set 4 (.mt 3 (1+1) []))) rfl kr (λ_=>R7 (n:=9) (i:=6) (off:=0) (bs:=[(.ms 3 1 0 e.length e.length),(.ms 4 1 0 j.length j.length),(Qd c.kind),(Qd c.buffer),(Qd c.base),(La c.strides),(Qd c.start),(Qd c.step),(Qd c.mod)]) (cs:=[(.ms 3 1 0 e.length e.length),(.ms 4 1 0 j.length j.length),(Qd c.kind),(Qd c.buffer),(Qd c.base),(La c.strides),(Qd c.start),(Qd c.step),(Qd c.mod)]) rfl rfl kr kr kr kr kr rfl (uk Qf yB kr rfl (uk Qf yB kr t (lu (lu (lu (lu (lu (lu (lu zm)))))))))) (Qe 1 (bi hm λw s hm=>Jh 62 9 120 1 Qa.toD g ([(⟨(⟨e,l⟩:Ql),c⟩:Qa)]:List Qa) w (xs:=(List.map Qa.toD) g) (es:=(List.map Qa.toD) ([(⟨(⟨e,l⟩:Ql),c⟩:Qa)]:List Qa)) (L:=(List.map Qa.toD)) yB rfl rfl Qa.fit s (re 1 (Ss _ _ hm _ kr))))))))))))))⟩))))) (hst:=(fO (RD q4 g.length f.at0_ f.len f.fill f.buffer f.offset f.step e j e.length j.length) (λ_=>(fD kr (fD kr (fD kr (fD (fX Qf _ _ _ _ _) (fD (fX Qf _ _ _ _ _) (fD kr iq))))))) rfl)))))))))))))))))))))) (λhm=>QO zf))))
def Sc(x:((List Qs)×Int×Int×Int×Nat)):Option ((List Qa)):=
 match x with
 |(q0,q1,q2,q3,q4)=>
 Xx (q1,q0,q4,q2,q3,([]:List Qa))>>=λc=>
 some c
theorem Wy{q0 q1 q2 q3 q4 v5001}(hm:Sc (q0,q1,q2,q3,q4)=some v5001):PC prog env 169 [(Xg q0),(Qd q1),(Qd q2),(Qd q3),Ea] [(.tok 62 q4)] (PN v5001) [(.tok 62 q4),(.tok 62 v5001.length)]:=by
 unfold Sc at hm;exact gB (fn:=f169) rfl (ge 1 (ge 1 (Qg (Qo (nA hm (Ss _) λc d hm=>ge 2 (Qn zf))))))
def Zu(x:((fj)×(List Qs)×Int×Int×Int×Nat×(List Qa)×Int×Qs×Nat×(fj)×(fj)×(fj)×(fj)×(fj)×Int)):Option ((fj)):=
 match x with
 |(e,q0,q1,j,k,q4,l,m,n,t,q5,q6,p,q,c,d)=>
 if d<(e.length:Int)then
  QR (c.length=e.length)>>=λ_=>
  idx c d>>=λr=>
  idx c d>>=λf=>
  QR (c.length=e.length)>>=λ_=>
  idx c d>>=λs=>
  iL c d (W (f+1))>>=λg=>
  Zu (e,q0,q1,j,k,q4,l,m,n,t,q5,q6,p,q,g,(W (d+1)))
 else
 some c
 partial_fixpoint
theorem Tr:∀x r,Zu x=some r->match x with|(f,q0,q1,z,p,q4,t,q,c,G,q5,q6,u,s,w,m)=>LQ f169 169 [1,1,0,0,0,1,0,1,1,1,0,1,0,0] 8 ⟨kp 96 [(0,(Xg q0)),(1,(Qd q1)),(2,(Qd z)),(3,(Qd p)),(4,(.arr 2 0 q4 q4)),(11,(Pj t)),(12,(.ptr 4 0)),(13,(Qd q)),(15,(Qd (if(W (c.len - q))<p then(W (c.len - q))else p))),(16,(.ptr 7 0)),(44,(Qd (f.length:Int))),(45,(Qd m))],[(.tok 62 G),(QC q5 q6),(.box (cellsOf Qf u)),(.tok 62 t.length),(LD c.at0_ c.len c.fill c.buffer c.offset c.step),(QG s),(QG w),(PD s.length f.length)]⟩ (P1 (.exit 2) (λF d=>⟨sl d 96 [(0,(Xg q0)),(1,(Qd q1)),(2,(Qd z)),(3,(Qd p)),(4,(.arr 2 0 q4 q4)),(11,(Pj t)),(12,(.ptr 4 0)),(13,(Qd q)),(15,(Qd (if(W (c.len - q))<p then(W (c.len - q))else p))),(16,(.ptr 7 0))],[(.tok 62 G),(QC q5 q6),(.box (cellsOf Qf u)),(.tok 62 t.length),(LD c.at0_ c.len c.fill c.buffer c.offset c.step),(QG s),(QG F),(PD s.length f.length)]⟩) r):=by
 refine Zu.partial_correctness _ (λZu Tr x r hm=>?_);obtain⟨f,q0,q1,z,p,q4,t,q,c,G,q5,q6,u,s,w,m⟩:=x
 exact lp (ge 1 (Qg (ri hm (λhm=>Qr (Qg (Qo (ge 2 (gd (Qe 3 (gi hm λC hm=>bi hm λI D hm=>QB rfl (λ_=>Q9 (e:=3) (n:=m) (j:=(m).toNat) (tt:=6) (g:=1) (lo:=0) (len:=f.length) (cap:=f.length) (k:=.i64) kr kr rfl kr kr (gx D) (zA (gV D) C)) (bi hm λA D hm=>QB rfl (λ_=>Xv (tt:=6) (g:=1) (j:=(0+(m).toNat)) (e:=3) (cs:=cellsOf Qf w) (v:=.dat (Qf A)) kr kr rfl kr (ZN kr) (gK Qf D)) (Qe 1 (gi hm λE hm=>bi hm λJ D hm=>QB rfl (λ_=>Q9 (e:=3) (n:=m) (j:=(m).toNat) (tt:=6) (g:=1) (lo:=0) (len:=f.length) (cap:=f.length) (k:=.i64) kr kr rfl kr kr (gx D) (zA (gV D) E)) (bi hm λB D hm=>Zz (λH=>H.set 6 (QG B)) rfl kr (λ_=>D1 Qf (l:=w) (n:=m) (y:=(W (A+1))) D yB kr rfl kr kr kr kr) (Q6 (gd (re 2 (Tr _ _ hm _ (fO [(.tok 62 G),(QC q5 q6),(.box (cellsOf Qf u)),(.tok 62 t.length),(LD c.at0_ c.len c.fill c.buffer c.offset c.step),(QG s),(QG B),(PD s.length f.length)] (λ_=>(fD kr (fD kr (fD (kZ Qf _ _ _) (fD kr (fD kr (fD (fX Qf _ _ _ _ _) (fD (fX Qf _ _ _ _ _) (fD kr iq))))))))) rfl)))))))))))))))) (λhm=>QO zf))))
def Zd(x:(Int×(List Qs)×Nat×Nat×(fj)×(fj)×(fj)×Int×Int×(List Qa))):Option (((fj)×(List Qa))):=
 match x with
 |(q1,q0,q4,C,q5,q6,c,l,d,m)=>
 if d>0 then
  mX l q1>>=λw=>
  J5 (q0,w)>>=λ(e,f,D)=>
  QR (c.length=q4)>>=λ_=>
  Qu c>>=λj=>
  QR (c.length=q4)>>=λ_=>
  Qu c>>=λk=>
  Zu (k,q0,q1,l,d,q4,m,f,e,C,q5,q6,c,j,k,0)>>=λg=>
  QR (c.length=q4)>>=λ_=>
  Jl (e,f,c)>>=λp=>
  (if(W ((q4:Int) - 1))>=0 then
   idx j (W ((q4:Int) - 1))>>=λy=>
   idx j (W ((q4:Int) - 1))>>=λq=>
   QR (g.length=k.length)>>=λ_=>
   idx g (W ((q4:Int) - 1))>>=λz=>
   iL g (W ((q4:Int) - 1)) (W (q+(if(W (e.len - f))<d then(W (e.len - f))else d)))>>=λr=>
   QR (c.length=q4)>>=λ_=>
   idx c (W ((q4:Int) - 1))>>=λA=>
   idx c (W ((q4:Int) - 1))>>=λs=>
   QR (c.length=q4)>>=λ_=>
   idx c (W ((q4:Int) - 1))>>=λB=>
   iL c (W ((q4:Int) - 1)) (W (s+(if(W (e.len - f))<d then(W (e.len - f))else d)))>>=λt=>
   some (t,r)
  else
  some (c,g)
  )>>=λ((u,n):((fj)×(fj)))=>
  QR (n.length=k.length)>>=λ_=>
  app 120 m ([(⟨(⟨j,n⟩:Ql),p⟩:Qa)]:List Qa)>>=λv=>
  Zd (q1,q0,q4,C,q5,q6,u,(W (l+(if(W (e.len - f))<d then(W (e.len - f))else d))),(W (d - (if(W (e.len - f))<d then(W (e.len - f))else d))),v)
 else
 some (c,m)
 partial_fixpoint
theorem SQ:∀x r,Zd x=some r->match x with|(q1,q0,q4,T,q5,q6,t,B,q,z)=>LQ f169 169 [1,1,0,0,0] 4 ⟨kp 96 [(0,(Xg q0)),(1,(Qd q1)),(2,(Qd B)),(3,(Qd q)),(4,(.arr 2 0 q4 q4)),(11,(Pj z))],(R1 T q5 q6 t z.length)⟩ (P1 (.exit 0) (λ(U,M) d=>⟨sl d 96 [(11,(Pj M))],(R1 T q5 q6 U M.length)⟩) r):=by
 refine Zd.partial_correctness _ (λZd SQ x r hm=>?_);obtain⟨q1,q0,q4,T,q5,q6,t,B,q,z⟩:=x
 exact lp (Qg (ge 2 (ri hm (λhm=>Qr (Qo (gr 3 (bi hm λv603 w hm=>QB rfl (λ_=>NT (a:=B) (b:=q1) w rfl kr kr) (Nd hm λf u v606 w hm=>cp (Ua w) (re 8 (gr 5 (QB rfl (λ_=>MS (k:=.i64) (m:=q) (n:=(W (f.len - u))) rfl kr kr) (re 1 (gr 1 (gi hm λN hm=>bi hm λp w hm=>SG 5 3 Qf (args:=[(.arr 2 0 q4 q4)]) (Qz w) (ZN kr) (ml (DX (qi Qf t N yB kr)) tu) (Co (nz yB _)) (Qe 1 (gi hm λO hm=>bi hm λs w hm=>SG 6 3 Qf (args:=[(.arr 2 0 q4 q4)]) (Qz w) (ZN kr) (ml (DX (qi Qf t O yB kr)) tu) (Co (nz yB _)) (re 3 (Qg (gr 2 (Qe 1 (re 1 (Qo (nA hm (Tr _) (λP d hm=>Qg (ZP (Qe 4 (gi hm λF hm=>bi hm λc w hm=>UR (args:=[(.dat (.agg [(Qf f.at0_),(Qf f.len),(PY f.fill),(Qf f.buffer),(Qf f.offset),(Qf f.step)])),(Qd u),(.arr 2 0 q4 q4)]) (Uj w) (ml kr (ml kr (ml (DX (qi Qf t F yB kr)) tu))) (re 3 ⟨kr,ge 8 (Qg (gr 1 (Qe 1 (re 2 (ge 2 (uy hm λC A hs hm=>Xe (λd=>⟨sl d 96 [(0,(Xg q0)),(1,(Qd q1)),(2,(Qd (W (B+(if(W (f.len - u))<q then(W (f.len - u))else q))))),(3,(Qd (W (q - (if(W (f.len - u))<q then(W (f.len - u))else q))))),(4,(.arr 2 0 q4 q4)),(11,(Pj z)),(18,(.ptr 8 0))],[(.tok 62 T),(QC q5 q6),(.box (cellsOf Qf C)),(.tok 62 z.length),(LD f.at0_ f.len f.fill f.buffer f.offset f.step),(QG p),(QG A),(PD p.length s.length),(.box [(.ms 5 1 0 p.length p.length),(.ms 6 1 0 s.length s.length),(Qd c.kind),(Qd c.buffer),(Qd c.base),(La c.strides),(Qd c.start),(Qd c.step),(Qd c.mod)])]⟩) (have hm:=hs;ri hm (λhm=>Qg (ZP (Qe 6 (bi hm λV w hm=>QB rfl (λ_=>Q9 (e:=3) (n:=(W ((q4:Int) - 1))) (j:=((W ((q4:Int) - 1))).toNat) (tt:=5) (g:=1) (lo:=0) (len:=p.length) (cap:=p.length) (k:=.i64) kr kr rfl kr kr (gx w) (zA (gV w) rfl)) (bi hm λD w hm=>QB rfl (λ_=>Xv (tt:=5) (g:=1) (j:=(0+((W ((q4:Int) - 1))).toNat)) (e:=3) (cs:=cellsOf Qf p) (v:=.dat (Qf D)) kr kr rfl kr (ZN kr) (gK Qf w)) (Qe 2 (gi hm λG hm=>bi hm λX w hm=>QB rfl (λ_=>Q9 (e:=3) (n:=(W ((q4:Int) - 1))) (j:=((W ((q4:Int) - 1))).toNat) (tt:=6) (g:=1) (lo:=0) (len:=s.length) (cap:=s.length) (k:=.i64) kr kr rfl kr kr (gx w) (zA (gV w) G)) (bi hm λQ w hm=>Zz (λH=>H.set 6 (QG Q)) rfl kr (λ_=>D1 Qf (l:=P) (n:=(W ((q4:Int) - 1))) (y:=(W (D+(if(W (f.len - u))<q then(W (f.len - u))else q)))) w yB kr rfl kr kr kr kr) (Q6 ⟨kr,gd (Qe 2 (gi hm λI hm=>bi hm λY w hm=>QB rfl (λ_=>P0 (e:=3) (l:=t) (n:=(W ((q4:Int) - 1))) (i:=2) (cap:=q4) (m:=q4) w I kr kr rfl kr kr) (bi hm λR w hm=>QB rfl (λ_=>Vy Qf (l:=t) (n:=(W ((q4:Int) - 1))) (i:=2) w kr kr rfl kr kr) (Qe 2 (gi hm λJ hm=>bi hm λZ w hm=>QB rfl (λ_=>P0 (e:=3) (l:=t) (n:=(W ((q4:Int) - 1))) (i:=2) (cap:=q4) (m:=q4) w J kr kr rfl kr kr) (bi hm λS w hm=>Zz (λH=>H.set 2 (.box (cellsOf Qf S))) rfl kr (λ_=>Rz Qf (l:=t) (n:=(W ((q4:Int) - 1))) (y:=(W (R+(if(W (f.len - u))<q then(W (f.len - u))else q)))) w yB kr rfl kr kr kr kr) (Q6 zf)))))))⟩))))))))) (λhm=>Qr zf)) (λd=>gd (Qe 1 (gi hm λK hm=>Zz (v:=(OP p A c.kind c.buffer c.base c.strides c.start c.step c.mod)) (λH=>((H.set 5 (.mt 3 (1+1) [])).set 6 (.mt 3 (1+1) []))) rfl kr (λ_=>R7 (n:=9) (i:=8) (off:=0) (bs:=[(.ms 5 1 0 p.length p.length),(.ms 6 1 0 s.length s.length),(Qd c.kind),(Qd c.buffer),(Qd c.base),(La c.strides),(Qd c.start),(Qd c.step),(Qd c.mod)]) (cs:=[(.ms 5 1 0 p.length p.length),(.ms 6 1 0 s.length s.length),(Qd c.kind),(Qd c.buffer),(Qd c.base),(La c.strides),(Qd c.start),(Qd c.step),(Qd c.mod)]) rfl rfl kr kr kr kr kr rfl (uk Qf yB kr rfl (uk Qf yB kr K (lu (lu (lu (lu (lu (lu (lu zm)))))))))) (Qe 1 (bi hm λE w hm=>Jh 62 9 120 3 Qa.toD z ([(⟨(⟨p,A⟩:Ql),c⟩:Qa)]:List Qa) E (xs:=(List.map Qa.toD) z) (es:=(List.map Qa.toD) ([(⟨(⟨p,A⟩:Ql),c⟩:Qa)]:List Qa)) (L:=(List.map Qa.toD)) yB rfl rfl Qa.fit w (re 1 (SQ _ _ hm _ (fO (R1 T q5 q6 C E.length) (λ_=>(fD kr (fD kr (fD (kZ Qf _ _ _) (fD kr iq))))) rfl))))))))))))))⟩))))) (hst:=(fO [(.tok 62 T),(QC q5 q6),(.box (cellsOf Qf t)),(.tok 62 z.length),(LD f.at0_ f.len f.fill f.buffer f.offset f.step),(QG p),(QG s),(PD p.length s.length)] (λ_=>(fD kr (fD kr (fD (kZ Qf _ _ _) (fD kr (fD kr (fD (fX Qf _ _ _ _ _) (fD (fX Qf _ _ _ _ _) (fD kr iq))))))))) rfl)))))))))))))))))))))) (λhm=>QO zf))))
def YO(x:((List Qs)×Int×Int×Int×Nat×(fj)×(fj)×(fj)×Nat)):Option (((fj)×(List Qa))):=
 match x with
 |(q0,q1,q2,q3,q4,q5,q6,q7,e)=>
 Zd (q1,q0,q4,e,q5,q6,q7,q2,q3,([]:List Qa))>>=λ(c,d)=>
 some (c,d)
theorem Ws{q0 q1 q2 q3 q4 q5 q6 q7 q8 v5001 v5002}(hm:YO (q0,q1,q2,q3,q4,q5,q6,q7,q8)=some (v5001,v5002)):PC prog env 169 [(Xg q0),(Qd q1),(Qd q2),(Qd q3),(.arr 2 0 q4 q4)] (Oy q8 q5 q6 q7) (Pj v5002) (R1 q8 q5 q6 v5001 v5002.length):=by
 unfold YO at hm;exact gB (fn:=f169) rfl (ge 1 (ge 1 (Qg (Qo (nA hm (SQ _) (λ⟨c,e⟩ d hm=>ge 2 (Qn zf)) (hst:=(fO [(.tok 62 q8),(QC q5 q6),(.box (cellsOf Qf q7)),(.tok 62 (([]:List Qa).length))] (λ_=>(fD kr (fD kr (fD (kZ Qf _ _ _) (fD kr iq))))) rfl)))))))
def Zf(x:(Int×(fj)×(List Qs)×Qs×Qs×Int×(List Qa)×Int)):Option ((List Qa)):=
 match x with
 |(s,p1,p0,e,f,g,c,d)=>
 if d<s then
  (
  Y0 (p1,d,c.length)>>=λout=>
  match out with
  | .inl _=>
   Sc (p0,(W (e.at0_+f.len)),d,g,c.length)>>=λj=>
   app 120 c j>>=λk=>
   Zf (s,p1,p0,e,f,g,k,(W (d+g)))
  | .inr ((l,m,n,p))=>
   YO (p0,(W (e.at0_+f.len)),d,g,p,m,n,l,c.length)>>=λ(t,q)=>
   app 120 c q>>=λr=>
   Zf (s,p1,p0,e,f,g,r,(W (d+g)))
  )
 else
 some c
 partial_fixpoint
theorem RI:∀x r,Zf x=some r->match x with|(q,p1,p0,l,m,s,c,f)=>LQ f122 122 [1,1,1,1,1,1,1,0,1,0,0] 1 ⟨kp 82 [(0,(Xg p0)),(1,(La p1)),(5,(Qd q)),(6,(Qd s)),(7,(Qd (W (l.at0_+m.len)))),(8,(Xw c)),(9,(Qd f))],[(.tok 62 c.length)]⟩ (P1 (.exit 1) (λg d=>⟨sl d 82 [(8,(Xw g))],[(.tok 62 g.length)]⟩) r):=by
 refine Zf.partial_correctness _ (λZf RI x r hm=>?_);obtain⟨q,p1,p0,l,m,s,c,f⟩:=x;exact lp (Qg (ge 3 (ri hm (λhm=>Qr (Qg (Qo (gr 2 (bs hm (λ_ e hm=>Q5 (T8 e) (re 5 (gd (Qe 6 (bi hm λj e hm=>Q5 (Wy e) (bi hm λn e hm=>Jh 62 9 120 0 Qa.toD c j n (xs:=(List.map Qa.toD) c) (es:=(List.map Qa.toD) j) (L:=(List.map Qa.toD)) yB rfl rfl Qa.fit e (re 1 (gd (re 4 (RI _ _ hm _ kr)))))))))) λ⟨t,u,v,w⟩ e hm=>Q5 (T8 e) (re 5 (gd (Qe 6 (uy hm λy k e hm=>Q5 (Ws e) (bi hm λp e hm=>Jh 62 9 120 0 Qa.toD c k p (xs:=(List.map Qa.toD) c) (es:=(List.map Qa.toD) k) (L:=(List.map Qa.toD)) yB rfl rfl Qa.fit e (re 1 (gd (re 4 (RI _ _ hm _ kr)))))))))))))) (λhm=>QO zf))))
def ZX(x:((List Qs)×(fj))):Option (List Qa):=
 match x with
 |(p0,p1)=>
 Xf p1>>=λg=>
 (if g=0 then
  some true
 else
 some ((p0.length:Int)==0)
 )>>=λ(v2:Bool)=>
 if v2=true then
  J0 p1>>=λj=>
  some j
 else
 if(p0.length:Int)=1 then
  Yu p1>>=λ(q,k,l)=>
  idx p0 0>>=λm=>
  PM (m,p1)>>=λn=>
  some ([(⟨(⟨k,l⟩:Ql),n⟩:Qa)]:List Qa)
 else
 (if(p1.length:Int)>0 then
  idx p1 (W ((p1.length:Int) - 1))>>=λd=>
  some d
 else
 some 1
 )>>=λ(p:Int)=>
 idx p0 (W ((p0.length:Int) - 1))>>=λe=>
 idx p0 (W ((p0.length:Int) - 1))>>=λf=>
 Zf (g,p1,p0,e,f,p,([]:List Qa),0)>>=λc=>
 some c
theorem Vj{p0 p1 r0}(hm:ZX (p0,p1)=some r0):FQ 122 [(.lst ((List.map Qs.toD) p0)),(Lb p1)] (QX r0):=by
 unfold ZX at hm
 exact fp (fn:=f122) rfl (ge 1 (gr 1 (bi hm λl c hm=>cp (PG c) (re 1 (Qg (Qo (Qg (bi hm λv2 k hm=>Xe (λd=>⟨sl d 82 [(0,(Xg p0)),(1,(La p1)),(5,(Qd l)),(14,(Qp v2))],[]⟩) (have hm:=k;gd (Qe 3 (HD 17 hm (λhm=>re 5 zf) (λhm=>Qe 1 (QZ Qs.toD p0 (re 3 zf)))))) (λd=>mr hm (λhm=>gr 1 (bi hm λu c hm=>cp (WC c) (re 1 (Qn zf)))) (λhm=>gr 1 (QZ Qs.toD p0 (re 2 (sQ hm (λhm=>Qg (ZP (Qe 1 (Nd hm λm g j c hm=>QB (v:=.dat (.agg [(Lb g),(Lb j)])) rfl (λ_=>Jg (f:=111) (first:=#[]) (cap:=#[]) (e:=3) (ow':=[]) (ds:=[(Lb p1)]) (p:=(.agg [(.ms 1 m 0 g.length g.length),(.ms 2 1 0 j.length j.length)])) (H1:=(P6 m g.length j.length g j)) rfl kr kr kr kr (JT c) (vp (fK (kG (e:=3) Qf g rfl yB kr) (fK (kG (e:=3) Qf j rfl yB kr) mT)))) (Qe 1 (QY 6 Qs.toD hm λw hm=>Qe 2 (bi hm λx c hm=>cp (UF c) (re 3 ⟨kr,Qn zf⟩)))))))) (λhm=>Qr (ge 1 (Qg (gr 1 (QZ Qf p1 (re 1 (bi hm λq k hm=>Xe (λd=>⟨sl d 82 [(0,(Xg p0)),(1,(La p1)),(5,(Qd l)),(6,(Qd q))],[]⟩) (have hm:=k;ri hm (λhm=>gd (Qe 2 (QZ Qf p1 (Qe 1 (QY 1 Qf hm λr hm=>re 2 zf))))) (λhm=>Qr zf)) (λd=>Qg (ZP (Qe 2 (QZ Qs.toD p0 (Qe 1 (QY 6 Qs.toD hm λs hm=>Qe 4 (QZ Qs.toD p0 (Qe 1 (QY 6 Qs.toD hm λt hm=>re 4 ⟨kr,ge 1 (Qg (ge 1 (Qo (nA hm (RI _) λn d hm=>ge 2 (Qn zf)))))⟩)))))))))))))))))))))))))))))
def Xl(x:((List Qa)×(fj)×(fj))):Option (List Qa):=
 match x with
 |(p0,p1,c)=>
 XH (p1,c)>>=λd=>
 if d=true then
  some p0
 else
 Pn (p0,p1)>>=λv2=>
 Pf v2>>=λe=>
 ZX (e,c)>>=λf=>
 some f
theorem Vb{p0 p1 p2 r0}(hm:Xl (p0,p1,p2)=some r0):FQ 76 [(.lst ((List.map Qa.toD) p0)),(Lb p1),(Lb p2)] (QX r0):=by
 unfold Xl at hm;exact fp (fn:=f76) rfl (ge 1 (Qg (gr 2 (bi hm λd c hm=>cp (V5 c) (Q6 (mr hm (λhm=>ge 2 (Qn zf)) (λhm=>Qr (gr 2 (bi hm λv2 c hm=>cp (VH c) (bi hm λe c hm=>cp (VB c) (Qe 1 (bi hm λf c hm=>cp (Vj c) (re 1 (Qn zf))))))))))))))
def Jt(x:(Qj×(List (List Qa)))):Option (List Qa):=
 match x with
 |(p0,p1)=>
 idx p1 0>>=λc=>
 idx p0.kids 0>>=λv2=>
 Xl (c,v2.shape,p0.shape)>>=λd=>
 some d
theorem VC{p0 p1 r0}(hm:Jt (p0,p1)=some r0):FQ 75 [(Qj.ex p0),(.lst ((List.map (λl=>fy.lst ((List.map Qa.toD) l))) p1))] (QX r0):=by
 unfold Jt at hm;exact fp (fn:=f75) rfl (ge 2 (Qg (ZP (Qe 1 (bi hm λe c hm=>Ji 1 (λl=>fy.lst ((List.map Qa.toD) l)) p1 0 e (es:=(List.map (λl=>fy.lst ((List.map Qa.toD) l))) p1) (d:=(.lst ((List.map Qa.toD) e))) rfl c rfl rfl (Qe 3 (bi hm λv2 c hm=>Ji 8 Qj.toD p0.kids 0 v2 (es:=Qj.toDs p0.kids) (d:=(Qj.ex v2)) (Qj.toDs_eq _) c (Qj.toD_eq v2) rfl (Qe 4 (bi hm λf c hm=>cp (Vb c) (re 1 ⟨kr,Qn zf⟩))))))))))
def Yf(x:List Qa):Option (List Qa):=app 120 [] x
def iF(l:List Qa):Nat:=match l with|[]=>0|_=>1
theorem Vw{x r}(hm:Yf x=some r):PC prog env 125 ([.lst ((List.map Qa.toD) x)].map .dat) [] (.ms 0 (iF r) 0 r.length r.length) [.mt 62 (iF r) (cellsOf Qa.toD r)]:=by
 obtain⟨c,d⟩:=p7 hm;have d:r=x:=d;subst d;cases r with
 |nil=>exact IS (n:=20) (by kernel_rfl)
 |cons a l=>
  exact gB (fn:=f125) rfl (ge 1 (Qg (gr 1 (QB rfl (λ_=>TR (p:=.dat (.lst ((List.map Qa.toD) (a::l)))) (b:=false) rfl kr kr kr) (Q6 (He kr (Qr (gr 2 (Zz (v:=.ms 0 1 0 (a::l).length (a::l).length) (λH=>H.set 0 (.mt 62 1 (cellsOf Qa.toD (a::l)))) rfl kr (λ_ f=>S7 Qa.toD (l:=[]) (es:=a::l) (bytes:=120) (e:=62) (tt:=0) (g:=0) (m:=0) (size:=9) hm Qa.fit rfl kr kr rfl kr kr rfl rfl kr rfl kr kr f) (re 1 (Qn zf)))))))))))
def Zs(x:((List Qa)×Int×Int×(List Qa)×Nat×(List Qa)×Int)):Option ((Nat×(List Qa))):=
 match x with
 |(p1,k,l,p0,d,e,c)=>
 if c<(p1.length:Int)then
  idx p1 c>>=λf=>
  XD (f,k,0,65536,l)>>=λg=>
  app 120 e ([g]:List Qa)>>=λj=>
  Zs (p1,k,l,p0,(d+1),j,(W (c+1)))
 else
 some (d,e)
 partial_fixpoint
theorem Tf:∀x r,Zs x=some r->match x with|(p1,s,u,p0,c,f,n)=>LQ f78 78 [1,1,0,1,0,0] 1 ⟨kp 49 [(0,(QX p0)),(2,(Qd s)),(3,(Qd u)),(9,(.ms 0 c 0 f.length f.length)),(16,(QX p1)),(17,(Qd (p1.length:Int))),(18,(Qd n))],[(JY c f)]⟩ (P1 (.exit 0) (λ(p,k) d=>⟨sl d 49 [(0,(QX p0)),(2,(Qd s)),(9,(.ms 0 p 0 k.length k.length))],[(JY p k)]⟩) r):=by
 refine Zs.partial_correctness _ (λZs Tf x r hm=>?_);obtain⟨p1,s,u,p0,c,f,n⟩:=x;exact lp (ge 1 (Qg (ri hm (λhm=>Qr (Qg (Qo (Qg (gd (QY 9 Qa.toD hm λw hm=>re 3 (gd (Qe 4 (bi hm λq t hm=>cp (RR t) (Qe 1 (bi hm λj t hm=>Zz (v:=.ms 0 (c+1) 0 j.length j.length) (λH=>H.set 0 (RU c j)) rfl kr (λ_ y=>S7 Qa.toD (l:=f) (es:=([q]:List Qa)) (bytes:=120) (e:=62) (tt:=0) (g:=c) (m:=f.length) (size:=9) t Qa.fit rfl kr kr rfl kr kr rfl rfl kr rfl kr kr y) (re 1 (gd (re 2 (Tf _ _ hm _ (fO [(RU c j)] (λ_=>(fD (fX Qa.toD _ _ _ _ _) iq)) rfl)))))))))))))))) (λhm=>QO zf))))
def Zt(x:((List Qa)×Int×(List Qa)×Nat×(List Qa)×Int)):Option ((List Qa)):=
 match x with
 |(p0,m,e,k,d,c)=>
 if c<(p0.length:Int)then
  QR (0<=c/\(c).toNat<p0.length)>>=λ_=>
  idx d c>>=λf=>
  XD (f,m,0,65536,0)>>=λg=>
  QR (0<=c/\(c).toNat<e.length)>>=λ_=>
  idx d c>>=λl=>
  iL d c g>>=λj=>
  Zt (p0,m,e,k,j,(W (c+1)))
 else
 some d
 partial_fixpoint
theorem Tj:∀x r,Zt x=some r->match x with|(p0,z,c,f,k,j)=>LQ f78 78 [1,1,1,0,1,0,0] 1 ⟨kp 49 [(2,(Qd z)),(9,(.ms 0 f 0 c.length c.length)),(33,(.ms 0 f 0 p0.length (max c.length c.length))),(34,(Qd (p0.length:Int))),(35,(Qd j))],[(JY f k)]⟩ (P1 (.exit 2) (λs d=>⟨sl d 49 [(9,(.ms 0 f 0 c.length c.length))],[(JY f s)]⟩) r):=by
 refine Zt.partial_correctness _ (λZt Tj x r hm=>?_);obtain⟨p0,z,c,f,k,j⟩:=x
 exact lp (ge 1 (Qg (ri hm (λhm=>Qr (Qg (Qo (gr 1 (gi hm λp hm=>QB rfl (λ_=>TA (e:=62) (n:=j) (tt:=0) (g:=f) (len:=p0.length) (cap:=(max c.length c.length)) (size:=9) p kr kr rfl kr kr) (bi hm λv u hm=>QB rfl (λ_=>UM Qa.toD (tt:=0) (g:=f) (n:=j) (e:=62) (size:=9) u Qa.fit kr kr kr rfl kr kr kr) (re 3 (gd (Qe 4 (bi hm λt u hm=>cp (RR u) (gi hm λq hm=>QB rfl (λ_=>TA (e:=62) (n:=j) (tt:=0) (g:=f) (len:=c.length) (cap:=c.length) (size:=9) q kr kr rfl kr kr) (bi hm λw A hm=>bi hm λm u hm=>Zz (λH=>H.set 0 (JY f m)) rfl kr (λ_=>Uk Qa.toD (l:=k) (n:=j) (y:=t) (size:=9) u A Qa.fit kr kr rfl kr kr kr kr) (Q6 (gd (re 2 (Tj _ _ hm _ (fO [(JY f m)] (λ_=>(fD (fX Qa.toD _ _ _ _ _) iq)) rfl))))))))))))))))) (λhm=>QO zf))))
def Jd(x:((List Qa)×(List Qa)×Int×Int)):Option (List Qa):=
 match x with
 |(p0,p1,g,j)=>
 Yf p0>>=λk=>
 Zs (p1,g,j,p0,1,k,0)>>=λ(f,c)=>
 QR (p0.length<=c.length)>>=λ_=>
 Zt (p0,g,c,f,c,0)>>=λd=>
 QR (d.length=c.length)>>=λ_=>
 Zq d>>=λe=>
 some e
theorem V1{p0 p1 p2 p3 r0}(hm:Jd (p0,p1,p2,p3)=some r0):FQ 78 [(.lst ((List.map Qa.toD) p0)),(.lst ((List.map Qa.toD) p1)),(Qf p2),(Qf p3)] (QX r0):=by
 unfold Jd at hm
 exact fp (fn:=f78) rfl (ge 1 (gr 1 (bi hm λr p hm=>go 0 62 Qa.toD (Vw p) (re 1 (Qg (gr 1 (QZ Qa.toD p1 (re 1 (Qo (nA hm (Tf _) (λ⟨f,c⟩ d hm=>Qg (gr 2 (QZ Qa.toD p0 (gi hm λn hm=>QB (v:=(.ms 0 f 0 p0.length (max c.length c.length))) rfl (λ_=>V7 (e:=62) (len:=c.length) (h:=p0.length) n kr kr rfl kr kr) (Qe 1 (re 1 (Qo (nA hm (Tj _) (λj d hm=>Qg (gd (gi hm λk hm=>Zz (v:=(QX j)) (λH=>H.set 0 (.mt 62 (f+1) (cellsOf Qa.toD ([]:List Qa)))) rfl kr (λ_ s=>V0 Qa.toD (l:=j) (tt:=0) (e:=62) (g:=f) (m:=c.length) (cap:=c.length) k yB rfl kr kr kr s) (bi hm λq p hm=>cp (XN p) (re 1 (Qn zf)))))) (hst:=(fO [(JY f c)] (λ_=>(fD (fX Qa.toD _ _ _ _ _) iq)) rfl)))))))))) (hst:=(fO [(.mt 62 1 (cellsOf Qa.toD r))] (λ_=>(fD (fX Qa.toD _ _ _ _ _) iq)) rfl))))))))))))
def Ju(x:(Qj×(List (List Qa)))):Option (List Qa):=
 match x with
 |(p0,p1)=>
 idx p1 0>>=λc=>
 idx p1 1>>=λv2=>
 idx p0.kids 0>>=λd=>
 idx d.shape p0.axis>>=λe=>
 Jd (c,v2,p0.axis,e)>>=λf=>
 some f
theorem VL{p0 p1 r0}(hm:Ju (p0,p1)=some r0):FQ 77 [(Qj.ex p0),(.lst ((List.map (λl=>fy.lst ((List.map Qa.toD) l))) p1))] (QX r0):=by
 unfold Ju at hm;exact fp (fn:=f77) rfl (ge 2 (Qg (ZP (Qe 1 (bi hm λf c hm=>Ji 1 (λl=>fy.lst ((List.map Qa.toD) l)) p1 0 f (es:=(List.map (λl=>fy.lst ((List.map Qa.toD) l))) p1) (d:=(.lst ((List.map Qa.toD) f))) rfl c rfl rfl (Qe 2 (bi hm λv2 c hm=>Ji 1 (λl=>fy.lst ((List.map Qa.toD) l)) p1 1 v2 (es:=(List.map (λl=>fy.lst ((List.map Qa.toD) l))) p1) (d:=(.lst ((List.map Qa.toD) v2))) rfl c rfl rfl (Qe 5 (bi hm λe c hm=>Ji 8 Qj.toD p0.kids 0 e (es:=Qj.toDs p0.kids) (d:=(Qj.ex e)) (Qj.toDs_eq _) c (Qj.toD_eq e) rfl (Qe 4 (QY 1 Qf hm λg hm=>Qe 1 (bi hm λj c hm=>cp (V1 c) (re 1 ⟨kr,Qn zf⟩)))))))))))))
mutual
def QH (x:((List Qj)×Int×(fj)×Int×(fj)×Int×Int×(fj)×(List (List Qa))×Int)):Option ((List (List Qa))):=
 match x with
 |(q7,q0,q1,q2,q3,q4,q5,q6,f,e)=>
 if e<(q7.length:Int)then
  idx q7 e>>=λc=>
  Zx (c.kind,c.shape,c.buffer,c.starts,c.axis,c.amount,c.perm,c.kids)>>=λg=>
  app 24 f ([g]:List (List Qa))>>=λj=>
  QH (q7,q0,q1,q2,q3,q4,q5,q6,j,(W (e+1)))
 else
 some f
 partial_fixpoint
def Zx (x:(Int×(fj)×Int×(fj)×Int×Int×(fj)×(List Qj))):Option ((List Qa)):=
 match x with
 |(q0,q1,q2,q3,q4,q5,q6,q7)=>
 QH (q7,q0,q1,q2,q3,q4,q5,q6,([]:List (List Qa)),0)>>=λd=>
 if q0=1 then
  Jo ((⟨q0,q1,q2,q3,q4,q5,q6,q7⟩:Qj),d)>>=λk=>
  some k
 else
 if q0=2 then
  Jp ((⟨q0,q1,q2,q3,q4,q5,q6,q7⟩:Qj),d)>>=λl=>
  some l
 else
 if q0=3 then
  Jq ((⟨q0,q1,q2,q3,q4,q5,q6,q7⟩:Qj),d)>>=λm=>
  some m
 else
 if q0=4 then
  Jr ((⟨q0,q1,q2,q3,q4,q5,q6,q7⟩:Qj),d)>>=λn=>
  some n
 else
 if q0=5 then
  Js ((⟨q0,q1,q2,q3,q4,q5,q6,q7⟩:Qj),d)>>=λp=>
  some p
 else
 if q0=6 then
  Jt ((⟨q0,q1,q2,q3,q4,q5,q6,q7⟩:Qj),d)>>=λq=>
  some q
 else
 if q0=7 then
  Ju ((⟨q0,q1,q2,q3,q4,q5,q6,q7⟩:Qj),d)>>=λr=>
  some r
 else
 none
 partial_fixpoint
end
def Xp:((List Qj)×Int×(fj)×Int×(fj)×Int×Int×(fj)×(List (List Qa))×Int)->((List (List Qa)))->Prop:=λx r=>match x with
 |(q7,q0,q1,q2,q3,q4,q5,q6,c,f)=>LQ f32 32 [1,1,0,1,0,0] 4 ⟨kp 29 [(1,(.ptr 2 0)),(2,(.ptr 1 0)),(3,(.iptr [(Qf q0),(Lb q1),(Qf q2),(Lb q3),(Qf q4),(Qf q5),(Lb q6),(.lst (Qj.toDs q7))])),(5,(.vec 3 ((List.map (λl=>fy.lst ((List.map Qa.toD) l))) c))),(9,(.dat (.lst (Qj.toDs q7)))),(10,(Qd (q7.length:Int))),(11,(Qd f))],[(.map [(.int .i64 1,(.dat (.raw (.func (.func 65) #[] #[])))),(.int .i64 2,(.dat (.raw (.func (.func 67) #[] #[])))),(.int .i64 3,(.dat (.raw (.func (.func 69) #[] #[])))),(.int .i64 4,(.dat (.raw (.func (.func 71) #[] #[])))),(.int .i64 5,(.dat (.raw (.func (.func 73) #[] #[])))),(.int .i64 6,(.dat (.raw (.func (.func 75) #[] #[])))),(.int .i64 7,(.dat (.raw (.func (.func 77) #[] #[]))))]),(.box [(.mapv 0)]),(.box [(.fn 32 [(.ptr 2 0),(.ptr 1 0)])]),(.tok 29 c.length)]⟩ (P1 (.exit 0) (λe d=>⟨sl d 29 [(2,(.ptr 1 0)),(3,(.iptr [(Qf q0),(Lb q1),(Qf q2),(Lb q3),(Qf q4),(Qf q5),(Lb q6),(.lst (Qj.toDs q7))])),(5,(.vec 3 ((List.map (λl=>fy.lst ((List.map Qa.toD) l))) e)))],[(.map [(.int .i64 1,(.dat (.raw (.func (.func 65) #[] #[])))),(.int .i64 2,(.dat (.raw (.func (.func 67) #[] #[])))),(.int .i64 3,(.dat (.raw (.func (.func 69) #[] #[])))),(.int .i64 4,(.dat (.raw (.func (.func 71) #[] #[])))),(.int .i64 5,(.dat (.raw (.func (.func 73) #[] #[])))),(.int .i64 6,(.dat (.raw (.func (.func 75) #[] #[])))),(.int .i64 7,(.dat (.raw (.func (.func 77) #[] #[]))))]),(.box [(.mapv 0)]),(.box [(.fn 32 [(.ptr 2 0),(.ptr 1 0)])]),(.tok 29 e.length)]⟩) r)
def XV:(Int×(fj)×Int×(fj)×Int×Int×(fj)×(List Qj))->(List Qa)->Prop:=λx r=>match x with
 |(q0,q1,q2,q3,q4,q5,q6,q7)=>Sb prog env 32 [(.dat (.agg [(Qf q0),(Lb q1),(Qf q2),(Lb q3),(Qf q4),(Qf q5),(Lb q6),(.lst (Qj.toDs q7))])),(.ptr 2 0),(.ptr 1 0)] [(.map [(.int .i64 1,(.dat (.raw (.func (.func 65) #[] #[])))),(.int .i64 2,(.dat (.raw (.func (.func 67) #[] #[])))),(.int .i64 3,(.dat (.raw (.func (.func 69) #[] #[])))),(.int .i64 4,(.dat (.raw (.func (.func 71) #[] #[])))),(.int .i64 5,(.dat (.raw (.func (.func 73) #[] #[])))),(.int .i64 6,(.dat (.raw (.func (.func 75) #[] #[])))),(.int .i64 7,(.dat (.raw (.func (.func 77) #[] #[]))))]),(.box [(.mapv 0)]),(.box [(.fn 32 [(.ptr 2 0),(.ptr 1 0)])])] (match r with|v5001=>(QX v5001)) (match r with|v5001=>[(.map [(.int .i64 1,(.dat (.raw (.func (.func 65) #[] #[])))),(.int .i64 2,(.dat (.raw (.func (.func 67) #[] #[])))),(.int .i64 3,(.dat (.raw (.func (.func 69) #[] #[])))),(.int .i64 4,(.dat (.raw (.func (.func 71) #[] #[])))),(.int .i64 5,(.dat (.raw (.func (.func 73) #[] #[])))),(.int .i64 6,(.dat (.raw (.func (.func 75) #[] #[])))),(.int .i64 7,(.dat (.raw (.func (.func 77) #[] #[]))))]),(.box [(.mapv 0)]),(.box [(.fn 32 [(.ptr 2 0),(.ptr 1 0)])])])
theorem lf:(∀x r,QH x=some r->Xp x r)/\(∀x r,Zx x=some r->XV x r):=by
 refine QH.mutual_partial_correctness Xp XV ?_ ?_
 .intro QH Zx Xs J7 x r hm;unfold Xp;obtain⟨q7,q0,q1,q2,q3,q4,q5,q6,k,p⟩:=x
  exact lp (ge 1 (Qg (ri hm (λhm=>Qr (Qg (Qo (Qg (gd (bi hm λc f hm=>Ji 8 Qj.toD q7 p c (es:=Qj.toDs q7) (d:=(Qj.ex c)) (Qj.toDs_eq _) f (Qj.toD_eq c) rfl (re 3 (gd (Qe 3 (bi hm λg f hm=>Uh (A0:=[(.dat (.agg [(Qf c.kind),(Lb c.shape),(Qf c.buffer),(Lb c.starts),(Qf c.axis),(Qf c.amount),(Lb c.perm),(.lst (Qj.toDs c.kids))])),(.ptr 2 0),(.ptr 1 0)]) (q:=(QX g)) (H0:=[(.map [(.int .i64 1,(.dat (.raw (.func (.func 65) #[] #[])))),(.int .i64 2,(.dat (.raw (.func (.func 67) #[] #[])))),(.int .i64 3,(.dat (.raw (.func (.func 69) #[] #[])))),(.int .i64 4,(.dat (.raw (.func (.func 71) #[] #[])))),(.int .i64 5,(.dat (.raw (.func (.func 73) #[] #[])))),(.int .i64 6,(.dat (.raw (.func (.func 75) #[] #[])))),(.int .i64 7,(.dat (.raw (.func (.func 77) #[] #[]))))]),(.box [(.mapv 0)]),(.box [(.fn 32 [(.ptr 2 0),(.ptr 1 0)])])]) (b:=0) (n:=3) (J7 _ _ f) (kS rfl (kS rfl (kS rfl AO))) (kS rfl (kS rfl (kS rfl AO))) (Qe 1 (bi hm λm f hm=>Jh 29 1 24 3 (λl=>fy.lst ((List.map Qa.toD) l)) k ([g]:List (List Qa)) m (xs:=(List.map (λl=>fy.lst ((List.map Qa.toD) l))) k) (es:=(List.map (λl=>fy.lst ((List.map Qa.toD) l))) ([g]:List (List Qa))) (L:=(List.map (λl=>fy.lst ((List.map Qa.toD) l)))) yB rfl rfl yB f (re 1 (gd (re 2 (Xs _ _ hm _ (fO [(.map [(.int .i64 1,(.dat (.raw (.func (.func 65) #[] #[])))),(.int .i64 2,(.dat (.raw (.func (.func 67) #[] #[])))),(.int .i64 3,(.dat (.raw (.func (.func 69) #[] #[])))),(.int .i64 4,(.dat (.raw (.func (.func 71) #[] #[])))),(.int .i64 5,(.dat (.raw (.func (.func 73) #[] #[])))),(.int .i64 6,(.dat (.raw (.func (.func 75) #[] #[])))),(.int .i64 7,(.dat (.raw (.func (.func 77) #[] #[]))))]),(.box [(.mapv 0)]),(.box [(.fn 32 [(.ptr 2 0),(.ptr 1 0)])]),(.tok 29 m.length)] (λ_=>(fD kr (fD kr (fD kr (fD kr iq))))) rfl))))))))))))))))) (λhm=>QO zf))))
 .intro QH Xs x r hm;unfold XV;obtain⟨q0,q1,q2,q3,q4,q5,q6,q7⟩:=x;refine Nc (fn:=f32) rfl ?_
  exact ge 2 (ge 1 (Qg (gr 2 (G3 Qj.toD q7 (es:=Qj.toDs q7) (Qj.toDs_eq _) (re 1 (Qo (nA hm (Xs _) (λs d hm=>gr 3 (kc (n:=q0) (K:=1) hm (λhc hm=>QB (v:=(.dat (.raw (.func (.func 65) #[] #[])))) rfl (λ_=>N1 (i:=0) (kt:=3) (e:=69) (ik:=.i64) (es:=[(.int .i64 1,(.dat (.raw (.func (.func 65) #[] #[])))),(.int .i64 2,(.dat (.raw (.func (.func 67) #[] #[])))),(.int .i64 3,(.dat (.raw (.func (.func 69) #[] #[])))),(.int .i64 4,(.dat (.raw (.func (.func 71) #[] #[])))),(.int .i64 5,(.dat (.raw (.func (.func 73) #[] #[])))),(.int .i64 6,(.dat (.raw (.func (.func 75) #[] #[])))),(.int .i64 7,(.dat (.raw (.func (.func 77) #[] #[]))))]) (n:=q0) (K:=1) (j:=0) hc kr kr rfl kr kr kr kr) (Qe 2 (bi hm λt f hm=>cp (WR f) (re 1 (Qn zf))))) (λhm=>kc (n:=q0) (K:=2) hm (λhc hm=>QB (v:=(.dat (.raw (.func (.func 67) #[] #[])))) rfl (λ_=>N1 (i:=0) (kt:=3) (e:=69) (ik:=.i64) (es:=[(.int .i64 1,(.dat (.raw (.func (.func 65) #[] #[])))),(.int .i64 2,(.dat (.raw (.func (.func 67) #[] #[])))),(.int .i64 3,(.dat (.raw (.func (.func 69) #[] #[])))),(.int .i64 4,(.dat (.raw (.func (.func 71) #[] #[])))),(.int .i64 5,(.dat (.raw (.func (.func 73) #[] #[])))),(.int .i64 6,(.dat (.raw (.func (.func 75) #[] #[])))),(.int .i64 7,(.dat (.raw (.func (.func 77) #[] #[]))))]) (n:=q0) (K:=2) (j:=1) hc kr kr rfl kr kr kr kr) (Qe 2 (bi hm λu f hm=>cp (UJ f) (re 1 (Qn zf))))) (λhm=>kc (n:=q0) (K:=3) hm (λhc hm=>QB (v:=(.dat (.raw (.func (.func 69) #[] #[])))) rfl (λ_=>N1 (i:=0) (kt:=3) (e:=69) (ik:=.i64) (es:=[(.int .i64 1,(.dat (.raw (.func (.func 65) #[] #[])))),(.int .i64 2,(.dat (.raw (.func (.func 67) #[] #[])))),(.int .i64 3,(.dat (.raw (.func (.func 69) #[] #[])))),(.int .i64 4,(.dat (.raw (.func (.func 71) #[] #[])))),(.int .i64 5,(.dat (.raw (.func (.func 73) #[] #[])))),(.int .i64 6,(.dat (.raw (.func (.func 75) #[] #[])))),(.int .i64 7,(.dat (.raw (.func (.func 77) #[] #[]))))]) (n:=q0) (K:=3) (j:=2) hc kr kr rfl kr kr kr kr) (Qe 2 (bi hm λw f hm=>cp (V8 f) (re 1 (Qn zf))))) (λhm=>kc (n:=q0) (K:=4) hm (λhc hm=>QB (v:=(.dat (.raw (.func (.func 71) #[] #[])))) rfl (λ_=>N1 (i:=0) (kt:=3) (e:=69) (ik:=.i64) (es:=[(.int .i64 1,(.dat (.raw (.func (.func 65) #[] #[])))),(.int .i64 2,(.dat (.raw (.func (.func 67) #[] #[])))),(.int .i64 3,(.dat (.raw (.func (.func 69) #[] #[])))),(.int .i64 4,(.dat (.raw (.func (.func 71) #[] #[])))),(.int .i64 5,(.dat (.raw (.func (.func 73) #[] #[])))),(.int .i64 6,(.dat (.raw (.func (.func 75) #[] #[])))),(.int .i64 7,(.dat (.raw (.func (.func 77) #[] #[]))))]) (n:=q0) (K:=4) (j:=3) hc kr kr rfl kr kr kr kr) (Qe 2 (bi hm λy f hm=>cp (U4 f) (re 1 (Qn zf))))) (λhm=>kc (n:=q0) (K:=5) hm (λhc hm=>QB (v:=(.dat (.raw (.func (.func 73) #[] #[])))) rfl (λ_=>N1 (i:=0) (kt:=3) (e:=69) (ik:=.i64) (es:=[(.int .i64 1,(.dat (.raw (.func (.func 65) #[] #[])))),(.int .i64 2,(.dat (.raw (.func (.func 67) #[] #[])))),(.int .i64 3,(.dat (.raw (.func (.func 69) #[] #[])))),(.int .i64 4,(.dat (.raw (.func (.func 71) #[] #[])))),(.int .i64 5,(.dat (.raw (.func (.func 73) #[] #[])))),(.int .i64 6,(.dat (.raw (.func (.func 75) #[] #[])))),(.int .i64 7,(.dat (.raw (.func (.func 77) #[] #[]))))]) (n:=q0) (K:=5) (j:=4) hc kr kr rfl kr kr kr kr) (Qe 2 (bi hm λz f hm=>cp (WJ f) (re 1 (Qn zf))))) (λhm=>kc (n:=q0) (K:=6) hm (λhc hm=>QB (v:=(.dat (.raw (.func (.func 75) #[] #[])))) rfl (λ_=>N1 (i:=0) (kt:=3) (e:=69) (ik:=.i64) (es:=[(.int .i64 1,(.dat (.raw (.func (.func 65) #[] #[])))),(.int .i64 2,(.dat (.raw (.func (.func 67) #[] #[])))),(.int .i64 3,(.dat (.raw (.func (.func 69) #[] #[])))),(.int .i64 4,(.dat (.raw (.func (.func 71) #[] #[])))),(.int .i64 5,(.dat (.raw (.func (.func 73) #[] #[])))),(.int .i64 6,(.dat (.raw (.func (.func 75) #[] #[])))),(.int .i64 7,(.dat (.raw (.func (.func 77) #[] #[]))))]) (n:=q0) (K:=6) (j:=5) hc kr kr rfl kr kr kr kr) (Qe 2 (bi hm λA f hm=>cp (VC f) (re 1 (Qn zf))))) (λhm=>kc (n:=q0) (K:=7) hm (λhc hm=>QB (v:=(.dat (.raw (.func (.func 77) #[] #[])))) rfl (λ_=>N1 (i:=0) (kt:=3) (e:=69) (ik:=.i64) (es:=[(.int .i64 1,(.dat (.raw (.func (.func 65) #[] #[])))),(.int .i64 2,(.dat (.raw (.func (.func 67) #[] #[])))),(.int .i64 3,(.dat (.raw (.func (.func 69) #[] #[])))),(.int .i64 4,(.dat (.raw (.func (.func 71) #[] #[])))),(.int .i64 5,(.dat (.raw (.func (.func 73) #[] #[])))),(.int .i64 6,(.dat (.raw (.func (.func 75) #[] #[])))),(.int .i64 7,(.dat (.raw (.func (.func 77) #[] #[]))))]) (n:=q0) (K:=7) (j:=6) hc kr kr rfl kr kr kr kr) (Qe 2 (bi hm λB f hm=>cp (VL f) (re 1 (Qn zf))))) (λhm=>(Vr hm).elim))))))))) (hst:=(fO [(.map [(.int .i64 1,(.dat (.raw (.func (.func 65) #[] #[])))),(.int .i64 2,(.dat (.raw (.func (.func 67) #[] #[])))),(.int .i64 3,(.dat (.raw (.func (.func 69) #[] #[])))),(.int .i64 4,(.dat (.raw (.func (.func 71) #[] #[])))),(.int .i64 5,(.dat (.raw (.func (.func 73) #[] #[])))),(.int .i64 6,(.dat (.raw (.func (.func 75) #[] #[])))),(.int .i64 7,(.dat (.raw (.func (.func 77) #[] #[]))))]),(.box [(.mapv 0)]),(.box [(.fn 32 [(.ptr 2 0),(.ptr 1 0)])]),(.tok 29 (([]:List (List Qa)).length))] (λ_=>(fD kr (fD kr (fD kr (fD kr iq))))) rfl)))))))))
theorem Xs:∀x r,QH x=some r->Xp x r:=lf.1
theorem J7:∀x r,Zx x=some r->XV x r:=lf.2
def YS(x:Qj):Option (List Qa):=
 match x with
 |p0=>
 Xz ()>>=λ_=>
 Zx (p0.kind,p0.shape,p0.buffer,p0.starts,p0.axis,p0.amount,p0.perm,p0.kids)>>=λc=>
 some c
theorem SC{p0 r0}(hm:YS p0=some r0):FQ 9 [(Qj.ex p0)] (QX r0):=by
 unfold YS at hm
 exact fp (fn:=f9) rfl (ge 2 (Qg (gd (bi hm λ_ c hm=>Q5 (WD c) (re 2 (ge 1 (ge 2 (gr 2 (bi hm λd c hm=>Uh (A0:=[(.dat (.agg [(Qf p0.kind),(Lb p0.shape),(Qf p0.buffer),(Lb p0.starts),(Qf p0.axis),(Qf p0.amount),(Lb p0.perm),(.lst (Qj.toDs p0.kids))])),(.ptr 2 0),(.ptr 1 0)]) (q:=(QX d)) (H0:=[(.map [(.int .i64 1,(.dat (.raw (.func (.func 65) #[] #[])))),(.int .i64 2,(.dat (.raw (.func (.func 67) #[] #[])))),(.int .i64 3,(.dat (.raw (.func (.func 69) #[] #[])))),(.int .i64 4,(.dat (.raw (.func (.func 71) #[] #[])))),(.int .i64 5,(.dat (.raw (.func (.func 73) #[] #[])))),(.int .i64 6,(.dat (.raw (.func (.func 75) #[] #[])))),(.int .i64 7,(.dat (.raw (.func (.func 77) #[] #[]))))]),(.box [(.mapv 0)]),(.box [(.fn 32 [(.ptr 2 0),(.ptr 1 0)])])]) (b:=0) (n:=3) (J7 _ _ c) (kS rfl (kS rfl (kS rfl AO))) (kS rfl (kS rfl (kS rfl AO))) (re 1 (Qn zf)))))))))))
def YN(x:(Qx×Int)):Option (Unit⊕ Unit):=
 match x with
 |(p0,c)=>
 if c<(p0.lo.length:Int)then
  idx p0.lo c>>=λd=>
  idx p0.hi c>>=λe=>
  if d>=e then
   some (Sum.inl ())
  else
  YN (p0,(W (c+1)))
 else
 some (Sum.inr ())
 partial_fixpoint
theorem Sf:∀x r,YN x=some r->match x with|(p0,c)=>LQ f44 44 [1,0,1,0,0] 1 ⟨kp 22 [(1,(.ptr 0 0)),(3,(Qd c))],[(QC p0.lo p0.hi)]⟩ (P2 .ret (λ_ d=>⟨sl d 22 [(2,(Qp true))],[(QC p0.lo p0.hi)]⟩) (.exit 0) (λ_ d=>⟨sl d 22 [],[(QC p0.lo p0.hi)]⟩) r):=by
 refine YN.partial_correctness _ (λYN Sf x r hm=>?_);obtain⟨p0,c⟩:=x;exact lp (Qg (gr 3 (QZ Qf p0.lo (re 1 (ri hm (λhm=>Qr (Qg (Qo (Qg (ZP (Qe 3 (QY 1 Qf hm λe hm=>Qe 4 (QY 1 Qf hm λf hm=>re 2 ⟨kr,ri hm (λhm=>ge 1 (Qn zf)) (λhm=>Qr (gd (re 3 (Sf _ _ hm _ kr))))⟩)))))))) (λhm=>QO zf))))))
def X5(x:Qx):Option Bool:=
 match x with
 |p0=>
 (
 YN (p0,0)>>=λout=>
 match out with
 | .inl _=>
  some true
 | .inr (_)=>
  some false
 )
theorem VK{p0 r0}(hm:X5 p0=some r0):FQ 44 [(Qx.toD p0)] (Qp r0):=by
 unfold X5 at hm;exact fp (fn:=f44) rfl (ge 2 (Qg (ge 1 (Qo (rN hm (Sf _) (λ_ d hm=>zf) λ_ d hm=>ge 1 (Qn zf))))))
def Y1(x:((fj)×(fj)×Int)):Option (Bool⊕ Unit):=
 match x with
 |(p0,p1,c)=>
 (if c<(p0.length:Int)then
  some (decide (c<(p1.length:Int)))
 else
 some false
 )>>=λ(d:Bool)=>
 if d=true then
  idx p0 c>>=λe=>
  idx p1 c>>=λf=>
  if e≠f then
   idx p0 c>>=λg=>
   idx p1 c>>=λj=>
   some (Sum.inl (decide (g<j)))
  else
  Y1 (p0,p1,(W (c+1)))
 else
 some (Sum.inr ())
 partial_fixpoint
theorem SZ:∀x r,Y1 x=some r->match x with|(p0,p1,c)=>LQ f46 46 [1,0,1,0,0] 0 ⟨kp 41 [(0,(La p0)),(1,(La p1)),(5,(Qd c))],[]⟩ (P2 .ret (λe d=>⟨sl d 41 [(4,(Qp e))],[]⟩) (.exit 0) (λ_ d=>⟨sl d 41 [(0,(La p0)),(1,(La p1))],[]⟩) r):=by
 refine Y1.partial_correctness _ (λY1 SZ x r hm=>?_);obtain⟨p0,p1,c⟩:=x;exact lp (Qg (Qg (bi hm λf m hm=>Xe (λd=>⟨sl d 41 [(0,(La p0)),(1,(La p1)),(5,(Qd c)),(15,(Qp f))],[]⟩) (have hm:=m;gd (Qe 2 (QZ Qf p0 (Qe 2 (gs 10 hm (λhm=>Qe 2 (QZ Qf p1 (re 2 zf))) (λhm=>re 5 zf)))))) (λd=>mr hm (λhm=>Qr (Qg (Qo (Qg (ZP (Qe 2 (QY 1 Qf hm λg hm=>Qe 3 (QY 1 Qf hm λj hm=>re 2 ⟨kr,Eo hm (λhm=>Qg (ZP (Qe 2 (QY 1 Qf hm λk hm=>Qe 3 (QY 1 Qf hm λl hm=>re 3 ⟨kr,Qn zf⟩))))) (λhm=>Qr (gd (re 3 (SZ _ _ hm _ kr))))⟩)))))))) (λhm=>QO zf)))))
def Jz(x:((fj)×(fj))):Option Bool:=
 match x with
 |(p0,p1)=>
 (
 Y1 (p0,p1,0)>>=λout=>
 match out with
 | .inl c=>
  some c
 | .inr (_)=>
  some (decide ((p0.length:Int)<(p1.length:Int)))
 )
theorem Va{p0 p1 r0}(hm:Jz (p0,p1)=some r0):FQ 46 [(Lb p0),(Lb p1)] (Qp r0):=by
 unfold Jz at hm;exact fp (fn:=f46) rfl (ge 1 (Qg (ge 1 (Qo (rN hm (SZ _) (λc d hm=>zf) λ_ d hm=>gr 1 (QZ Qf p0 (Qe 1 (QZ Qf p1 (re 2 (Qn zf))))))))))
end Go.Proofs.Tryz
