/-
 Models of functions, their walks, and plain laws.
-/
import Derived.Test.YtjcfpjpdopfefaaGreatKDnfFewB
namespace Go.Proofs.Tryz
open Go Go.Pm
set_option linter.all false
set_option maxHeartbeats 2000000
set_option maxRecDepth 2000
def Xm(x:((fj)×Int×(List fj)×Int×(List fj)×Int)):Option ((List fj)):=
 match x with
 |(p0,e,f,g,d,c)=>
 idx p0 e>>=λj=>
 if c<j then
  idx f g>>=λk=>
  app 8 ([]:fj) k>>=λl=>
  app 8 l ([c]:fj)>>=λm=>
  app 24 d ([m]:List fj)>>=λn=>
  Xm (p0,e,f,g,n,(W (c+1)))
 else
 some d
 partial_fixpoint
theorem To:∀x r,Xm x=some r->match x with|(p0,n,g,m,c,e)=>LQ f54 54 [1,1,0,1,0,0,1,0,0,1,0,1,0,0,1,0,0,1,0,0] 1 ⟨kp 44 [(0,(La p0)),(3,(ZI g)),(4,(Qd n)),(5,(RE c)),(6,(Qd m)),(7,(Qd e))],[(.tok 22 c.length)]⟩ (P1 (.exit 4) (λp d=>⟨sl d 44 [(0,(La p0)),(3,(ZI g)),(4,(Qd n)),(5,(RE p)),(6,(Qd m))],[(.tok 22 p.length)]⟩) r):=by
 refine Xm.partial_correctness _ (λXm To x r hm=>?_);obtain⟨p0,n,g,m,c,e⟩:=x
 exact lp (Qg (gr 3 (QY 1 Qf hm λt hm=>re 2 (ri hm (λhm=>Qr (Qg (Qo (gd (Qe 4 (bi hm λf q hm=>Ji 1 (λl=>fy.lst ((List.map Qf) l)) g m f (es:=(List.map (λl=>fy.lst ((List.map Qf) l))) g) (d:=(Lb f)) rfl q rfl rfl (Qe 1 (bi hm λj q hm=>Jh 3 1 8 1 Qf ([]:fj) f j (xs:=(List.map Qf) ([]:fj)) (es:=(List.map Qf) f) (L:=(List.map Qf)) yB rfl rfl yB q (Qe 2 (bi hm λk q hm=>Jh 3 1 8 1 Qf j ([e]:fj) k (xs:=(List.map Qf) j) (es:=(List.map Qf) ([e]:fj)) (L:=(List.map Qf)) yB rfl rfl yB q (Qe 1 (bi hm λs q hm=>Jh 22 1 24 0 (λl=>fy.lst ((List.map Qf) l)) c ([k]:List fj) s (xs:=(List.map (λl=>fy.lst ((List.map Qf) l))) c) (es:=(List.map (λl=>fy.lst ((List.map Qf) l))) ([k]:List fj)) (L:=(List.map (λl=>fy.lst ((List.map Qf) l)))) yB rfl rfl yB q (re 1 (gd (re 3 (To _ _ hm _ kr)))))))))))))))) (λhm=>QO zf)))))
def YV(x:((List fj)×(fj)×Int×(List fj)×Int)):Option ((List fj)):=
 match x with
 |(c,p0,e,f,d)=>
 if d<(c.length:Int)then
  Xm (p0,e,c,d,f,0)>>=λg=>
  YV (c,p0,e,g,(W (d+1)))
 else
 some f
 partial_fixpoint
theorem Sy:∀x r,YV x=some r->match x with|(c,p0,e,f,j)=>LQ f54 54 [1,1,0,1,0,0,1,0,0,1,0,1,0,0] 1 ⟨kp 44 [(0,(La p0)),(3,(ZI c)),(4,(Qd e)),(5,(RE f)),(6,(Qd j))],[(.tok 22 f.length)]⟩ (P1 (.exit 2) (λg d=>⟨sl d 44 [(0,(La p0)),(4,(Qd e)),(5,(RE g))],[(.tok 22 g.length)]⟩) r):=by
 refine YV.partial_correctness _ (λYV Sy x r hm=>?_);obtain⟨c,p0,e,f,j⟩:=x;exact lp (Qg (gr 2 (G3 (λl=>fy.lst ((List.map Qf) l)) c (es:=(List.map (λl=>fy.lst ((List.map Qf) l))) c) rfl (re 1 (ri hm (λhm=>Qr (Qg (Qo (ge 1 (Qo (nA hm (To _) λk d hm=>gd (re 3 (Sy _ _ hm _ kr)))))))) (λhm=>QO zf))))))
def YU(x:((fj)×(List fj)×Int)):Option ((List fj)):=
 match x with
 |(p0,d,c)=>
 if c<(p0.length:Int)then
  YV (d,p0,c,([]:List fj),0)>>=λe=>
  YU (p0,e,(W (c+1)))
 else
 some d
 partial_fixpoint
theorem R8:∀x r,YU x=some r->match x with|(p0,c,e)=>LQ f54 54 [1,1,0,1,0,0] 0 ⟨kp 44 [(0,(La p0)),(3,(ZI c)),(4,(Qd e))],[]⟩ (P1 (.exit 0) (λf d=>⟨sl d 44 [(3,(ZI f))],[]⟩) r):=by
 refine YU.partial_correctness _ (λYU R8 x r hm=>?_);obtain⟨p0,c,e⟩:=x;exact lp (Qg (gr 2 (QZ Qf p0 (re 1 (ri hm (λhm=>Qr (Qg (Qo (ge 1 (Qg (ge 1 (Qo (nA hm (Sy _) λg d hm=>gd (re 2 (gd (re 3 (R8 _ _ hm _ kr)))))))))))) (λhm=>QO zf))))))
def Yc(x:(fj)):Option (List fj):=
 match x with
 |p0=>
 YU (p0,([([]:(fj))]:List fj),0)>>=λc=>
 some c
theorem Uf{p0 r0}(hm:Yc p0=some r0):FQ 54 [(Lb p0)] (ZI r0):=by
 unfold Yc at hm;exact fp (fn:=f54) rfl (ge 1 (ge 3 (Qg (ge 1 (Qo (nA hm (R8 _) λc d hm=>ge 2 (Qn zf)))))))
def Xn(x:((fj)×Qx×Int)):Option (Unit⊕ Unit):=
 match x with
 |(p1,p0,c)=>
 if c<(p1.length:Int)then
  (idx p1 c>>=λd=>
  idx p0.lo c>>=λe=>
  if d<e then
   some true
  else
  idx p1 c>>=λf=>
  idx p0.hi c>>=λg=>
  some (decide (f>=g))
  )>>=λ(j:Bool)=>
  if j=true then
   some (Sum.inl ())
  else
  Xn (p1,p0,(W (c+1)))
 else
 some (Sum.inr ())
 partial_fixpoint
theorem S9:∀x r,Xn x=some r->match x with|(p1,p0,c)=>LQ f93 93 [1,1,0,1,0,0] 1 ⟨kp 40 [(1,(La p1)),(2,(.ptr 0 0)),(5,(Qd c))],[(QC p0.lo p0.hi)]⟩ (P2 .ret (λ_ d=>⟨sl d 40 [(4,(Qp false))],[(QC p0.lo p0.hi)]⟩) (.exit 0) (λ_ d=>⟨sl d 40 [],[(QC p0.lo p0.hi)]⟩) r):=by
 refine Xn.partial_correctness _ (λXn S9 x r hm=>?_);obtain⟨p1,p0,c⟩:=x;exact lp (Qg (gr 2 (QZ Qf p1 (re 1 (ri hm (λhm=>Qr (Qg (Qo (Qg (bi hm λe l hm=>Xe (λd=>⟨sl d 40 [(1,(La p1)),(2,(.ptr 0 0)),(5,(Qd c)),(39,(Qp e))],[(QC p0.lo p0.hi)]⟩) (have hm:=l;ZP (Qe 2 (QY 1 Qf hm λf hm=>Qe 4 (QY 1 Qf hm λg hm=>Qe 3 (gs 28 hm (λhm=>re 11 ⟨kr,zf⟩) (λhm=>Qe 2 (QY 1 Qf hm λj hm=>Qe 4 (QY 1 Qf hm λk hm=>re 3 ⟨kr,zf⟩)))))))) (λd=>mr hm (λhm=>ge 1 (Qn zf)) (λhm=>Qr (gd (re 3 (S9 _ _ hm _ kr)))))))))) (λhm=>QO zf))))))
def Jk(x:(Qx×(fj))):Option Bool:=
 match x with
 |(p0,p1)=>
 if(p1.length:Int)≠(p0.lo.length:Int)then
  some false
 else
 (
 Xn (p1,p0,0)>>=λout=>
 match out with
 | .inl _=>
  some false
 | .inr (_)=>
  some true
 )
theorem TD{p0 p1 r0}(hm:Jk (p0,p1)=some r0):FQ 93 [(Qx.toD p0),(Lb p1)] (Qp r0):=by
 unfold Jk at hm;exact fp (fn:=f93) rfl (ge 2 (Qg (gr 1 (QZ Qf p1 (Qe 2 (QZ Qf p0.lo (re 1 (Eo hm (λhm=>ge 1 (Qn zf)) (λhm=>Qr (Qg (ge 1 (Qo (rN hm (S9 _) (λ_ d hm=>zf) λ_ d hm=>ge 1 (Qn zf))))))))))))))
def YW(x:((fj)×(fj)×Int×Int)):Option (Int):=
 match x with
 |(p0,p1,d,c)=>
 (if c<(p0.length:Int)then
  some (decide (c<(p1.length:Int)))
 else
 some false
 )>>=λ(e:Bool)=>
 if e=true then
  idx p0 c>>=λf=>
  idx p1 c>>=λg=>
  YW (p0,p1,(W (d+(W (f*g)))),(W (c+1)))
 else
 some d
 partial_fixpoint
theorem Tv:∀x r,YW x=some r->match x with|(p0,p1,c,e)=>LQ f142 142 [1,1,0,1,0,0] 0 ⟨kp 31 [(0,(La p0)),(1,(La p1)),(5,(Qd c)),(6,(Qd e))],[]⟩ (P1 (.exit 0) (λf d=>⟨sl d 31 [(5,(Qd f))],[]⟩) r):=by
 refine YW.partial_correctness _ (λYW Tv x r hm=>?_);obtain⟨p0,p1,c,e⟩:=x;exact lp (Qg (Qg (bi hm λg l hm=>Xe (λd=>⟨sl d 31 [(0,(La p0)),(1,(La p1)),(5,(Qd c)),(6,(Qd e)),(16,(Qp g))],[]⟩) (have hm:=l;gd (Qe 2 (QZ Qf p0 (Qe 2 (gs 11 hm (λhm=>Qe 2 (QZ Qf p1 (re 2 zf))) (λhm=>re 5 zf)))))) (λd=>mr hm (λhm=>Qr (Qg (Qo (ZP (Qe 3 (QY 1 Qf hm λj hm=>Qe 3 (QY 1 Qf hm λk hm=>re 4 ⟨kr,gd (re 3 (Tv _ _ hm _ kr))⟩))))))) (λhm=>QO zf)))))
def Pc(x:((fj)×(fj))):Option Int:=
 match x with
 |(p0,p1)=>
 YW (p0,p1,0,0)>>=λc=>
 some c
theorem UB{p0 p1 r0}(hm:Pc (p0,p1)=some r0):FQ 142 [(Lb p0),(Lb p1)] (Qd r0):=by
 unfold Pc at hm;exact fp (fn:=f142) rfl (ge 1 (ge 1 (Qg (ge 1 (Qo (nA hm (Tv _) λc d hm=>ge 2 (Qn zf)))))))
def Xb(x:(QD×(fj))):Option (Int×Bool):=
 match x with
 |(p0,p1)=>
 Pc (p0.strides,p1)>>=λc=>
 if p0.kind=1 then
  some (0,false)
 else
 if p0.kind=2 then
  some ((W (p0.base+c)),true)
 else
 mX (W (p0.start+c)) p0.mod>>=λv2=>
 (if v2<0 then
  some (W (v2+p0.mod))
 else
 some v2
 )>>=λ(d:Int)=>
 some ((W (p0.base+(W (p0.step*d)))),true)
theorem VG{p0 p1 r0 r1}(hm:Xb (p0,p1)=some (r0,r1)):FQ 103 [(QD.toD p0),(Lb p1)] (.tup [(Qd r0),(Qp r1)]):=by
 unfold Xb at hm;exact fp (fn:=f103) rfl (ge 3 (gr 3 (bi hm λe c hm=>cp (UB c) (re 1 (Qg (ge 3 (sQ hm (λhm=>ge 2 (Qn zf)) (λhm=>Qr (Qg (ge 3 (sQ hm (λhm=>ge 6 (Qn zf)) (λhm=>Qr (gr 6 (bi hm λv2 c hm=>QB rfl (λ_=>NT (a:=(W (p0.start+e))) (b:=p0.mod) c rfl kr kr) (re 1 (Qg (ge 2 (bi hm λf g hm=>Xe (λd=>⟨sl d 42 [(2,(.ptr 0 0)),(7,(Qd f))],[(QA p0.kind p0.buffer p0.base p0.strides p0.start p0.step p0.mod)]⟩) (have hm:=g;ri hm (λhm=>gd (re 5 zf)) (λhm=>Qr zf)) (λd=>ge 9 (Qn zf))))))))))))))))))))
def Yx(x:((List Qk)×(fj)×Int)):Option ((Bool×Int×Int)⊕ Unit):=
 match x with
 |(p0,p1,c)=>
 if c<(p0.length:Int)then
  idx p0 c>>=λd=>
  Jk (d.box,p1)>>=λe=>
  if e=true then
   idx p0 c>>=λf=>
   Xb (f.access,p1)>>=λ(g,j)=>
   if j=false then
    some (Sum.inl (true,0,0))
   else
   idx p0 c>>=λk=>
   some (Sum.inl (false,k.access.buffer,g))
  else
  Yx (p0,p1,(W (c+1)))
 else
 some (Sum.inr ())
 partial_fixpoint
theorem Sk:∀x r,Yx x=some r->match x with|(p0,p1,c)=>LQ f55 55 [1,0,1,0,0] 1 ⟨kp 44 [(0,(NX p0)),(1,(La p1)),(4,(.ptr 0 0)),(6,(Qd c))],[(.box [(Qp false),(Qd 0),(Qd 0)])]⟩ (P2 .ret (λ(e,f,g) d=>⟨sl d 44 [(4,(.ptr 0 0)),(5,(Qp true))],[(.box [(Qp e),(Qd f),(Qd g)])]⟩) (.exit 0) (λ_ d=>⟨sl d 44 [(4,(.ptr 0 0))],[(.box [(Qp false),(Qd 0),(Qd 0)])]⟩) r):=by
 refine Yx.partial_correctness _ (λYx Sk x r hm=>?_);obtain⟨p0,p1,c⟩:=x;exact lp (Qg (gr 2 (QZ Qk.toD p0 (re 1 (ri hm (λhm=>Qr (Qg (Qo (gr 2 (QY 9 Qk.toD hm λk hm=>Qe 3 (bi hm λl j hm=>cp (TD j) (Q6 (mr hm (λhm=>gr 2 (QY 9 Qk.toD hm λm hm=>Qe 3 (uy hm λn p j hm=>cp (VG j) (re 5 (Qg (ge 2 (HF hm (λhm=>ge 3 (Qn zf)) (λhm=>Qr (gr 2 (QY 9 Qk.toD hm λq hm=>re 7 (Qn zf))))))))))) (λhm=>Qr (gd (re 3 (Sk _ _ hm _ kr)))))))))))) (λhm=>QO zf))))))
def Je(x:((List Qk)×(fj))):Option (Qi×Bool):=
 match x with
 |(p0,p1)=>
 (
 Yx (p0,p1,0)>>=λout=>
 match out with
 | .inl (c,d,e)=>
  some ((⟨c,d,e⟩:Qi),true)
 | .inr (_)=>
  some ((⟨false,0,0⟩:Qi),false)
 )
theorem VS{p0 p1 r0 r1}(hm:Je (p0,p1)=some (r0,r1)):FQ 55 [(.lst ((List.map Qk.toD) p0)),(Lb p1)] (.tup [(.dat (Qi.toD r0)),(Qp r1)]):=by
 unfold Je at hm;exact fp (fn:=f55) rfl (ge 2 (Qg (ge 1 (Qo (rN hm (Sk _) (λ⟨c,e,f⟩ d hm=>zf) λ_ d hm=>ge 3 (Qn zf))))))
def ZF(x:((List fj)×(List Qk)×(List Qi)×Int)):Option ((List Qi)):=
 match x with
 |(j,p1,d,c)=>
 if c<(j.length:Int)then
  idx j c>>=λe=>
  Je (p1,e)>>=λ(f,k)=>
  app 24 d ([f]:List Qi)>>=λg=>
  ZF (j,p1,g,(W (c+1)))
 else
 some d
 partial_fixpoint
theorem Tl:∀x r,ZF x=some r->match x with|(k,p1,c,e)=>LQ f16 16 [1,1,1,0,1,0,0] 1 ⟨kp 32 [(1,(NX p1)),(5,(.vec 0 ((List.map Qi.toD) c))),(6,(ZI k)),(7,(Qd e))],[(.tok 45 c.length)]⟩ (P1 (.exit 0) (λf d=>⟨sl d 32 [(5,(.vec 0 ((List.map Qi.toD) f)))],[(.tok 45 f.length)]⟩) r):=by
 refine ZF.partial_correctness _ (λZF Tl x r hm=>?_);obtain⟨k,p1,c,e⟩:=x;exact lp (Qg (gr 2 (G3 (λl=>fy.lst ((List.map Qf) l)) k (es:=(List.map (λl=>fy.lst ((List.map Qf) l))) k) rfl (re 1 (ri hm (λhm=>Qr (Qg (Qo (gr 3 (bi hm λg m hm=>Ji 1 (λl=>fy.lst ((List.map Qf) l)) k e g (es:=(List.map (λl=>fy.lst ((List.map Qf) l))) k) (d:=(Lb g)) rfl m rfl rfl (Qe 1 (uy hm λj p m hm=>cp (VS m) (re 6 (gd (Qe 3 (bi hm λn m hm=>Jh 45 3 24 0 Qi.toD c ([j]:List Qi) n (xs:=(List.map Qi.toD) c) (es:=(List.map Qi.toD) ([j]:List Qi)) (L:=(List.map Qi.toD)) yB rfl rfl Qi.fit m (re 1 (gd (re 3 (Tl _ _ hm _ kr))))))))))))))) (λhm=>QO zf))))))
def Xu(x:((fj)×(List Qk))):Option (List Qi):=
 match x with
 |(p0,p1)=>
 Yc p0>>=λd=>
 ZF (d,p1,([]:List Qi),0)>>=λc=>
 some c
theorem Vd{p0 p1 r0}(hm:Xu (p0,p1)=some r0):FQ 16 [(Lb p0),(.lst ((List.map Qk.toD) p1))] (TC r0):=by
 unfold Xu at hm;exact fp (fn:=f16) rfl (ge 1 (ge 1 (gr 1 (bi hm λf e hm=>cp (Uf e) (re 1 (Qg (ge 1 (Qo (nA hm (Tl _) λc d hm=>ge 2 (Qn zf))))))))))
def Xd(x:((List Qi)×Int)):Option (Unit⊕ Unit):=
 match x with
 |(p0,c)=>
 if c<(p0.length:Int)then
  (idx p0 c>>=λd=>
  idx p0 0>>=λe=>
  (if(d.fill !=e.fill)=true then
   some true
  else
  idx p0 c>>=λf=>
  idx p0 0>>=λg=>
  some (f.buffer !=g.buffer)
  )>>=λ(j:Bool)=>
  if j=true then
   some true
  else
  idx p0 c>>=λk=>
  idx p0 (W (c - 1))>>=λl=>
  idx p0 1>>=λm=>
  idx p0 0>>=λn=>
  some ((W (k.offset - l.offset)) !=(W (m.offset - n.offset)))
  )>>=λ(p:Bool)=>
  if p=true then
   some (Sum.inl ())
  else
  Xd (p0,(W (c+1)))
 else
 some (Sum.inr ())
 partial_fixpoint
def Th(x:(List Qi)):Option Bool:=
 match x with
 |p0=>
 (
 Xd (p0,1)>>=λout=>
 match out with
 | .inl _=>
  some false
 | .inr (_)=>
  some true
 )
def JM(x:(Int×(List Qi)×(List Qq)×Int)):Option (Int):=
 match x with
 |(c,p0,j,d)=>
 (if(W (c+d))<(p0.length:Int)then
  sub p0 c (W ((W (c+d))+1))>>=λe=>
  Th e>>=λf=>
  some f
 else
 some false
 )>>=λ(g:Bool)=>
 if g=true then
  JM (c,p0,j,(W (d+1)))
 else
 some d
 partial_fixpoint
def JL(x:((List Qi)×(List Qq)×Int)):Option ((List Qq)):=
 match x with
 |(p0,f,c)=>
 if c<(p0.length:Int)then
  JM (c,p0,f,1)>>=λd=>
  idx p0 c>>=λe=>
  (if e.fill=false then
   idx p0 c>>=λg=>
   idx p0 c>>=λj=>
   some (g.buffer,j.offset)
  else
  some ((0:Int),(0:Int))
  )>>=λ((k,l):(Int×Int))=>
  (if e.fill=false then
   some (decide (d>1))
  else
  some false
  )>>=λ(m:Bool)=>
  (if m=true then
   idx p0 (W (c+1))>>=λn=>
   idx p0 c>>=λp=>
   some (W (n.offset - p.offset))
  else
  some 0
  )>>=λ(q:Int)=>
  app 48 f ([(⟨c,d,e.fill,k,l,q⟩:Qq)]:List Qq)>>=λr=>
  JL (p0,r,(W (c+d)))
 else
 some f
 partial_fixpoint
def Rk(x:(List Qi)):Option (List Qq):=
 match x with
 |p0=>
 JL (p0,([]:List Qq),0)>>=λc=>
 some c
def Xc(x:((List Qq)×Int×Int)):Option (Int):=
 match x with
 |(p0,d,c)=>
 if c<(p0.length:Int)then
  idx p0 c>>=λe=>
  Xc (p0,(W (d+e.len)),(W (c+1)))
 else
 some d
 partial_fixpoint
def P9(x:(List Qq)):Option Int:=
 match x with
 |p0=>
 Xc (p0,0,0)>>=λc=>
 some c
def Rm(x:((fj)×QD)):Option (List Qk):=
 match x with
 |(p0,p1)=>
 jb 8 (p0.length:Int) 0>>=λc=>
 some ([(⟨(⟨c,p0⟩:Qx),p1⟩:Qk)]:List Qk)
def YD(x:((fj)×Nat×(fj)×Int×Int×Int)):Option (Int):=
 match x with
 |(q0,g,j,k,c,d)=>
 (if d<(q0.length:Int)then
  some (decide (c>0))
 else
 some false
 )>>=λ(e:Bool)=>
 if e=true then
  idx q0 d>>=λf=>
  YD (q0,g,j,k,(W (c*f)),(W (d+1)))
 else
 some c
 partial_fixpoint
def ZR(x:((fj)×Nat×(fj)×Int)):Option ((Nat×(fj))):=
 match x with
 |(q0,d,e,c)=>
 if c<(q0.length:Int)then
  YC q0>>=λj=>
  (if j=0 then
   some 0
  else
  some 1
  )>>=λ(k:Int)=>
  YD (q0,d,e,c,k,(W (c+1)))>>=λf=>
  app 8 e ([f]:fj)>>=λg=>
  ZR (q0,(gb d ([f]:fj).isEmpty),g,(W (c+1)))
 else
 some (d,e)
 partial_fixpoint
def JO(x:(fj)):Option ((Nat×(fj))):=
 match x with
 |q0=>
 XE q0>>=λe=>
 if e≠0 then
  some (0,([]:fj))
 else
 ZR (q0,0,([]:fj),0)>>=λ(c,d)=>
 some (c,d)
def Xr(x:((fj)×Int×(fj)×Int)):Option ((fj)):=
 match x with
 |(v2,p1,c,d)=>
 if d<(v2.length:Int)then
  QR (c.length=v2.length)>>=λ_=>
  idx c d>>=λg=>
  idx c d>>=λe=>
  QR (c.length=v2.length)>>=λ_=>
  idx c d>>=λj=>
  iL c d (W (e*p1))>>=λf=>
  Xr (v2,p1,f,(W (d+1)))
 else
 some c
 partial_fixpoint
def RF(x:((fj)×Int)):Option fj:=
 match x with
 |(p0,p1)=>
 JO p0>>=λ(d,v2)=>
 Xr (v2,p1,v2,0)>>=λc=>
 QR (c.length=v2.length)>>=λ_=>
 some c
def JG(x:((List Qq)×Int×Int)):Option (Int⊕ Unit):=
 match x with
 |(p0,p1,c)=>
 if c<(p0.length:Int)then
  (idx p0 c>>=λd=>
  if p1>=d.at0_ then
   idx p0 c>>=λe=>
   idx p0 c>>=λf=>
   some (decide (p1<(W (e.at0_+f.len))))
  else
  some false
  )>>=λ(g:Bool)=>
  if g=true then
   some (Sum.inl c)
  else
  JG (p0,p1,(W (c+1)))
 else
 some (Sum.inr ())
 partial_fixpoint
def Po(x:((List Qq)×Int)):Option Int:=
 match x with
 |(p0,p1)=>
 (
 JG (p0,p1,0)>>=λout=>
 match out with
 | .inl c=>
  some c
 | .inr (_)=>
  some (-1)
 )
def YX(x:((fj)×(List fj)×Int×(List Qq)×Int×Nat×(List Qk)×Int×Int×(fj)×(fj)×Nat×(fj)×Int)):Option ((Nat×(fj))):=
 match x with
 |(p1,v20,v226,p0,v2,v223,v225,v626,v627,v222,v641,e,f,c)=>
 if c<(p1.length:Int)then
  idx v20 v226>>=λg=>
  idx g c>>=λd=>
  app 8 f ([(W (d+1))]:fj)>>=λj=>
  YX (p1,v20,v226,p0,v2,v223,v225,v626,v627,v222,v641,(gb e ([(W (d+1))]:fj).isEmpty),j,(W (c+1)))
 else
 some (e,f)
 partial_fixpoint
def QI(x:((List fj)×Int×(List Qq)×(fj)×Nat×(fj)×Nat×Nat×(List Qk)×Int)):Option ((Nat×(fj)×Nat×Nat×(List Qk))):=
 match x with
 |(v20,v2,p0,p1,f,v222,v223,e,v225,v226)=>
 if v226<(v20.length:Int)then
  mX v226 v2>>=λv626=>
  Po (p0,v626)>>=λv627=>
  ((if(W ((p1.length:Int) - 1))<0 then
   some true
  else
  idx v20 v226>>=λz=>
  idx z (W ((p1.length:Int) - 1))>>=λA=>
  some (A==0)
  )>>=λ(B:Bool)=>
  (if B=true then
   some true
  else
  some (v626==0)
  )>>=λ(C:Bool)=>
  if C=true then
   some true
  else
  Po (p0,(W (v626 - 1)))>>=λD=>
  some (D !=v627)
  )>>=λ(E:Bool)=>
  if E=false then
   QR (0<v225.length/\v225.length<=4611686018427387904)>>=λ_=>
   QR (v222.length=e)>>=λ_=>
   idx v222 (W ((p1.length:Int) - 1))>>=λK=>
   idx v222 (W ((p1.length:Int) - 1))>>=λF=>
   QR (v222.length=e)>>=λ_=>
   idx v222 (W ((p1.length:Int) - 1))>>=λL=>
   iL v222 (W ((p1.length:Int) - 1)) (W (F+1))>>=λG=>
   QI (v20,v2,p0,p1,f,G,v223,e,v225,(W (v226+1)))
  else
  idx v20 v226>>=λv641=>
  QR (v222.length=e)>>=λ_=>
  YX (p1,v20,v226,p0,v2,v223,v225,v626,v627,v222,v641,(T2 f v225+1),([]:fj),0)>>=λ(g,c)=>
  idx p0 v627>>=λn=>
  if n.fill=false then
   idx p0 v627>>=λp=>
   idx p0 v627>>=λj=>
   idx p0 v627>>=λk=>
   idx p0 v627>>=λl=>
   jb 8 (p1.length:Int) 0>>=λd=>
   (if(W ((p1.length:Int) - 1))>=0 then
    idx p0 v627>>=λq=>
    idx d (W ((p1.length:Int) - 1))>>=λI=>
    iL d (W ((p1.length:Int) - 1)) q.step>>=λr=>
    idx p0 v627>>=λs=>
    idx v20 v226>>=λt=>
    idx t (W ((p1.length:Int) - 1))>>=λu=>
    some (r,(W ((W (j.offset+(W ((W (v626 - k.at0_))*l.step)))) - (W (s.step*u)))))
   else
   some (d,(W (j.offset+(W ((W (v626 - k.at0_))*l.step)))))
   )>>=λ((m,v):((fj)×Int))=>
   QR (m.length=d.length)>>=λ_=>
   I8 120 (λ(H:Qk) (J:fj)=>(⟨⟨H.box.lo,J⟩,H.access⟩:Qk)) v225 v222 (⟨(⟨v641,c⟩:Qx),(⟨2,p.buffer,v,m,0,0,0⟩:QD)⟩:Qk)>>=λw=>
   QI (v20,v2,p0,p1,g,c,(v223+1),c.length,w,(W (v226+1)))
  else
  I8 120 (λ(H:Qk) (J:fj)=>(⟨⟨H.box.lo,J⟩,H.access⟩:Qk)) v225 v222 (⟨(⟨v641,c⟩:Qx),(⟨1,0,0,([]:(fj)),0,0,0⟩:QD)⟩:Qk)>>=λy=>
  QI (v20,v2,p0,p1,g,c,(v223+1),c.length,y,(W (v226+1)))
 else
 some (f,v222,v223,e,v225)
 partial_fixpoint
def Yd(x:((List Qq)×(fj))):Option (List Qk):=
 match x with
 |(p0,p1)=>
 YC p1>>=λv=>
 if v=0 then
  some ([]:(List Qk))
 else
 P9 p0>>=λv2=>
 (if v2=0 then
  some true
 else
 if(p0.length:Int)=1 then
  idx p0 0>>=λw=>
  some w.fill
 else
 some false
 )>>=λ(y:Bool)=>
 if y=true then
  Rm (p1,(⟨1,0,0,([]:(fj)),0,0,0⟩:QD))>>=λz=>
  some z
 else
 if(p0.length:Int)=1 then
  idx p0 0>>=λA=>
  idx p0 0>>=λB=>
  idx p0 0>>=λC=>
  RF (p1,C.step)>>=λD=>
  (idx p0 0>>=λf=>
  if f.step≠0 then
   YC p1>>=λg=>
   some (decide (g>v2))
  else
  some false
  )>>=λ(j:Bool)=>
  (if j=true then
   RF (p1,1)>>=λk=>
   idx p0 0>>=λl=>
   some ((3:Int),k,l.step,v2)
  else
  some ((2:Int),D,(0:Int),(0:Int))
  )>>=λ((m,n,p,q):(Int×(fj)×Int×Int))=>
  Rm (p1,(⟨m,A.buffer,B.offset,n,0,p,q⟩:QD))>>=λr=>
  some r
 else
 Yc p1>>=λv20=>
 QI (v20,v2,p0,p1,0,([]:fj),0,0,([]:List Qk),0)>>=λ(s,c,t,d,e)=>
 QR (c.length=d)>>=λ_=>
 some (Bh (λ(u:Qk) (E:fj)=>(⟨⟨u.box.lo,E⟩,u.access⟩:Qk)) e c)
def YH(x:((List Qa)×(List Qk)×Int)):Option ((List Qk)):=
 match x with
 |(p0,e,d)=>
 if d<(p0.length:Int)then
  idx p0 d>>=λf=>
  idx p0 d>>=λg=>
  idx p0 d>>=λc=>
  app 120 e ([(⟨(⟨f.box.lo,g.box.hi⟩:Qx),(⟨c.access.kind,c.access.buffer,c.access.base,c.access.strides,c.access.start,c.access.step,c.access.mod⟩:QD)⟩:Qk)]:List Qk)>>=λj=>
  YH (p0,j,(W (d+1)))
 else
 some e
 partial_fixpoint
theorem Tb:∀x r,YH x=some r->match x with|(p0,e,f)=>LQ f13 13 [1,1,0,1,0,0] 1 ⟨kp 67 [(0,(QX p0)),(3,(.vec 0 ((List.map Qk.toD) e))),(4,(Qd f))],[(.tok 83 e.length)]⟩ (P1 (.exit 0) (λg d=>⟨sl d 67 [(3,(.vec 0 ((List.map Qk.toD) g)))],[(.tok 83 g.length)]⟩) r):=by
 refine YH.partial_correctness _ (λYH Tb x r hm=>?_);obtain⟨p0,e,f⟩:=x
 exact lp (Qg (gr 2 (QZ Qa.toD p0 (re 1 (ri hm (λhm=>Qr (Qg (Qo (ge 1 (gr 2 (QY 9 Qa.toD hm λj hm=>re 6 (gr 2 (QY 9 Qa.toD hm λk hm=>re 6 (gr 2 (QY 9 Qa.toD hm λc hm=>re 4 (ge 5 (ge 5 (ge 5 (ge 5 (ge 5 (ge 5 (ge 5 (gd (Qe 3 (bi hm λl m hm=>Jh 83 9 120 0 Qk.toD e ([(⟨(⟨j.box.lo,k.box.hi⟩:Qx),(⟨c.access.kind,c.access.buffer,c.access.base,c.access.strides,c.access.start,c.access.step,c.access.mod⟩:QD)⟩:Qk)]:List Qk) l (xs:=(List.map Qk.toD) e) (es:=(List.map Qk.toD) ([(⟨(⟨j.box.lo,k.box.hi⟩:Qx),(⟨c.access.kind,c.access.buffer,c.access.base,c.access.strides,c.access.start,c.access.step,c.access.mod⟩:QD)⟩:Qk)]:List Qk)) (L:=(List.map Qk.toD)) yB rfl rfl Qk.fit m (re 1 (gd (re 3 (Tb _ _ hm _ kr)))))))))))))))))))))))) (λhm=>QO zf))))))
def Ps(x:(List Qa)):Option (List Qk):=
 match x with
 |p0=>
 YH (p0,([]:List Qk),0)>>=λc=>
 some c
def TG:(List Qa)->(List Qk)->Prop:=λx r=>match x,r with
 |p0,c=>∀H,PC prog env 13 ([(.lst ((List.map Qa.toD) p0))].map .dat) H (NX c) H
theorem VJ:∀x r,Ps x=some r->TG x r:=by
 intro p0 e hm;unfold Ps at hm;unfold TG;intro H;refine sA (ds:=[(.lst ((List.map Qa.toD) p0))]) (fn:=f13) rfl ?_;exact ge 1 (ge 1 (Qg (ge 1 (Qo (nA hm (Tb _) λc d hm=>ge 2 (Qn zf))))))
def YM(x:(Qx×Int)):Option (Unit⊕ Unit):=
 match x with
 |(p0,c)=>
 if c<(p0.lo.length:Int)then
  (idx p0.lo c>>=λd=>
  (if d<0 then
   some true
  else
  idx p0.lo c>>=λe=>
  idx p0.hi c>>=λf=>
  some (decide (e>f))
  )>>=λ(g:Bool)=>
  if g=true then
   some true
  else
  idx p0.hi c>>=λj=>
  some (decide (j>65536))
  )>>=λ(k:Bool)=>
  if k=true then
   some (Sum.inl ())
  else
  YM (p0,(W (c+1)))
 else
 some (Sum.inr ())
 partial_fixpoint
theorem S2:∀x r,YM x=some r->match x with|(p0,c)=>LQ f43 43 [1,1,0,1,0,0] 1 ⟨kp 51 [(1,(.ptr 0 0)),(3,(Qd c))],[(QC p0.lo p0.hi)]⟩ (P2 .ret (λ_ d=>⟨sl d 51 [(2,(Qp false))],[(QC p0.lo p0.hi)]⟩) (.exit 0) (λ_ d=>⟨sl d 51 [],[(QC p0.lo p0.hi)]⟩) r):=by
 refine YM.partial_correctness _ (λYM S2 x r hm=>?_);obtain⟨p0,c⟩:=x;exact lp (Qg (gr 3 (QZ Qf p0.lo (re 1 (ri hm (λhm=>Qr (Qg (Qo (Qg (bi hm λe g hm=>Xe (λd=>⟨sl d 51 [(1,(.ptr 0 0)),(3,(Qd c)),(50,(Qp e))],[(QC p0.lo p0.hi)]⟩) (have hm:=g;Nx (Qe 3 (QY 1 Qf hm λk hm=>Qe 3 (bi hm λf g hm=>Yy (j:=19) (λd=>⟨sl d 51 [(1,(.ptr 0 0)),(3,(Qd c)),(42,(Qp f))],[(QC p0.lo p0.hi)]⟩) (λd=>Qe 1 (mU 43 hm (λhm=>re 7 ⟨kr,zf⟩) (λhm=>Qe 3 (QY 1 Qf hm λl hm=>re 3 ⟨kr,zf⟩)))) (λhJ=>gs 30 g (λhm=>Qe 12 zf) (λhm=>Qe 3 (QY 1 Qf hm λm hm=>Qe 4 (QY 1 Qf hm λn hm=>Qe 3 zf)))))))) (λd=>mr hm (λhm=>ge 1 (Qn zf)) (λhm=>Qr (gd (re 3 (S2 _ _ hm _ kr)))))))))) (λhm=>QO zf))))))
def X1(x:Qx):Option Bool:=
 match x with
 |p0=>
 (if(p0.lo.length:Int)≠(p0.hi.length:Int)then
  some true
 else
 some (decide ((p0.lo.length:Int)>16))
 )>>=λ(c:Bool)=>
 if c=true then
  some false
 else
 (
 YM (p0,0)>>=λout=>
 match out with
 | .inl _=>
  some false
 | .inr (_)=>
  some true
 )
theorem Uq{p0 r0}(hm:X1 p0=some r0):FQ 43 [(Qx.toD p0)] (Qp r0):=by
 unfold X1 at hm;exact fp (fn:=f43) rfl (ge 2 (Qg (Qg (bi hm λc e hm=>Xe (λd=>⟨sl d 51 [(1,(.ptr 0 0)),(16,(Qp c))],[(QC p0.lo p0.hi)]⟩) (have hm:=e;gd (Qe 2 (QZ Qf p0.lo (Qe 2 (QZ Qf p0.hi (Qe 2 (LB 11 hm (λhm=>re 5 zf) (λhm=>Qe 2 (QZ Qf p0.lo (re 2 zf)))))))))) (λd=>mr hm (λhm=>ge 1 (Qn zf)) (λhm=>Qr (Qg (ge 1 (Qo (rN hm (S2 _) (λ_ d hm=>zf) λ_ d hm=>ge 1 (Qn zf)))))))))))
def ZE(x:(Int×Int)):Option Bool:=
 match x with
 |(p0,p1)=>
 if p0>=(W (0 - p1))then
  some (decide (p0<=p1))
 else
 some false
theorem Pk{p0 p1 r0}(hm:ZE (p0,p1)=some r0):FQ 130 [(Qf p0),(Qf p1)] (Qp r0):=by
 unfold ZE at hm;exact fp (fn:=f130) rfl (ge 1 (gr 5 (gs 9 hm (λhm=>re 5 (Qn zf)) (λhm=>re 5 (Qn zf)))))
def ZD(x:(QD×Int×Int)):Option (Unit⊕ Unit):=
 match x with
 |(p0,p1,c)=>
 if c<(p0.strides.length:Int)then
  idx p0.strides c>>=λd=>
  ZE (d,p1)>>=λe=>
  if e=false then
   some (Sum.inl ())
  else
  ZD (p0,p1,(W (c+1)))
 else
 some (Sum.inr ())
 partial_fixpoint
theorem Ts:∀x r,ZD x=some r->match x with|(p0,p1,c)=>LQ f92 92 [1,0,1,0,0] 1 ⟨kp 49 [(1,(Qd p1)),(2,(.ptr 0 0)),(5,(Qd c))],[(QA p0.kind p0.buffer p0.base p0.strides p0.start p0.step p0.mod)]⟩ (P2 .ret (λ_ d=>⟨sl d 49 [(4,(Qp false))],[(QA p0.kind p0.buffer p0.base p0.strides p0.start p0.step p0.mod)]⟩) (.exit 0) (λ_ d=>⟨sl d 49 [(1,(Qd p1)),(2,(.ptr 0 0))],[(QA p0.kind p0.buffer p0.base p0.strides p0.start p0.step p0.mod)]⟩) r):=by
 refine ZD.partial_correctness _ (λZD Ts x r hm=>?_);obtain⟨p0,p1,c⟩:=x;exact lp (Qg (gr 3 (QZ Qf p0.strides (re 1 (ri hm (λhm=>Qr (Qg (Qo (gr 3 (QY 1 Qf hm λe hm=>Qe 2 (bi hm λf g hm=>cp (Pk g) (re 1 (HF hm (λhm=>ge 1 (Qn zf)) (λhm=>Qr (gd (re 3 (Ts _ _ hm _ kr)))))))))))) (λhm=>QO zf))))))
def XU(x:(QD×Int)):Option Bool:=
 match x with
 |(p0,p1)=>
 (
 ZD (p0,p1,0)>>=λout=>
 match out with
 | .inl _=>
  some false
 | .inr (_)=>
  ZE (p0.buffer,p1)>>=λc=>
  (if c=true then
   ZE (p0.base,p1)>>=λd=>
   some d
  else
  some false
  )>>=λ(e:Bool)=>
  (if e=true then
   ZE (p0.start,p1)>>=λf=>
   some f
  else
  some false
  )>>=λ(g:Bool)=>
  (if g=true then
   ZE (p0.step,p1)>>=λj=>
   some j
  else
  some false
  )>>=λ(k:Bool)=>
  if k=true then
   ZE (p0.mod,p1)>>=λl=>
   some l
  else
  some false
 )
theorem UL{p0 p1 r0}(hm:XU (p0,p1)=some r0):FQ 92 [(QD.toD p0),(Qf p1)] (Qp r0):=by
 unfold XU at hm
 exact fp (fn:=f92) rfl (ge 2 (Qg (ge 1 (Qo (rN hm (Ts _) (λ_ d hm=>zf) λ_ d hm=>Qg (HE (Qe 3 (bi hm λl c hm=>cp (Pk c) (Qe 1 (bi hm λe f hm=>Yy (j:=10) (λd=>⟨sl d 49 [(1,(Qd p1)),(2,(.ptr 0 0)),(30,(Qp e))],[(QA p0.kind p0.buffer p0.base p0.strides p0.start p0.step p0.mod)]⟩) (λd=>Qe 1 (bi hm λg f hm=>Yy (j:=16) (λd=>⟨sl d 49 [(1,(Qd p1)),(2,(.ptr 0 0)),(36,(Qp g))],[(QA p0.kind p0.buffer p0.base p0.strides p0.start p0.step p0.mod)]⟩) (λd=>Qe 1 (bi hm λk f hm=>Yy (j:=22) (λd=>⟨sl d 49 [(1,(Qd p1)),(2,(.ptr 0 0)),(42,(Qp k))],[(QA p0.kind p0.buffer p0.base p0.strides p0.start p0.step p0.mod)]⟩) (λd=>Qe 1 (mU 43 hm (λhm=>Qe 3 (bi hm λm c hm=>cp (Pk c) (re 2 ⟨kr,Qn zf⟩))) (λhm=>re 6 ⟨kr,Qn zf⟩))) (λhJ=>mU 37 f (λhm=>Qe 3 (bi hm λn c hm=>cp (Pk c) (Qe 1 zf))) (λhm=>Qe 5 zf)))) (λhJ=>mU 31 f (λhm=>Qe 3 (bi hm λp c hm=>cp (Pk c) (Qe 1 zf))) (λhm=>Qe 5 zf)))) (λhJ=>mU 25 f (λhm=>Qe 3 (bi hm λq c hm=>cp (Pk c) (Qe 1 zf))) (λhm=>Qe 5 zf))))))))))))
def XG(x:(QD×Int)):Option Bool:=
 match x with
 |(p0,p1)=>
 ((if p1<0 then
  some true
 else
 some (decide (p1>16))
 )>>=λ(v2:Bool)=>
 (if v2=true then
  some true
 else
 XU ((⟨p0.kind,p0.buffer,p0.base,p0.strides,p0.start,p0.step,p0.mod⟩:QD),1099511627776)>>=λd=>
 some (!d)
 )>>=λ(e:Bool)=>
 if e=true then
  some true
 else
 some (decide (p0.buffer<0))
 )>>=λ(f:Bool)=>
 if f=true then
  some false
 else
 if p0.kind=1 then
  (if p0.buffer=0 then
   some (p0.base==0)
  else
  some false
  )>>=λ(g:Bool)=>
  (if g=true then
   some ((p0.strides.length:Int)==0)
  else
  some false
  )>>=λ(j:Bool)=>
  (if j=true then
   some (p0.start==0)
  else
  some false
  )>>=λ(k:Bool)=>
  (if k=true then
   some (p0.step==0)
  else
  some false
  )>>=λ(l:Bool)=>
  if l=true then
   some (p0.mod==0)
  else
  some false
 else
 if p0.kind=2 then
  (if(p0.strides.length:Int)=p1 then
   some (p0.start==0)
  else
  some false
  )>>=λ(m:Bool)=>
  (if m=true then
   some (p0.step==0)
  else
  some false
  )>>=λ(c:Bool)=>
  if c=true then
   some (p0.mod==0)
  else
  some false
 else
 if p0.kind=3 then
  if(p0.strides.length:Int)=p1 then
   some (decide (p0.mod>0))
  else
  some false
 else
 some false
theorem U1{p0 p1 r0}(hm:XG (p0,p1)=some r0):FQ 45 [(QD.toD p0),(Qf p1)] (Qp r0):=by
 unfold XG at hm
 exact fp (fn:=f45) rfl (ge 2 (Qg (Qg (bi hm λf c hm=>Xe (λd=>⟨sl d 88 [(1,(Qd p1)),(2,(.ptr 0 0)),(20,(Qp f))],[(QA p0.kind p0.buffer p0.base p0.strides p0.start p0.step p0.mod)]⟩) (have hm:=c;HE (Qe 3 (bi hm λv2 c hm=>Yy (j:=6) (λd=>⟨sl d 88 [(1,(Qd p1)),(2,(.ptr 0 0)),(10,(Qp v2))],[(QA p0.kind p0.buffer p0.base p0.strides p0.start p0.step p0.mod)]⟩) (λd=>Qe 1 (bi hm λg c hm=>Yy (j:=11) (λd=>⟨sl d 88 [(1,(Qd p1)),(2,(.ptr 0 0)),(15,(Qp g))],[(QA p0.kind p0.buffer p0.base p0.strides p0.start p0.step p0.mod)]⟩) (λd=>Qe 1 (mU 16 hm (λhm=>re 4 ⟨kr,zf⟩) (λhm=>re 4 ⟨kr,zf⟩))) (λhJ=>mU 11 c (λhm=>Qe 4 zf) (λhm=>Qe 1 (bi hm λr k hm=>cp (UL k) (Qe 2 zf)))))) (λhJ=>gs 7 c (λhm=>Qe 3 zf) (λhm=>Qe 3 zf))))) (λd=>mr hm (λhm=>ge 1 (Qn zf)) (λhm=>Qr (Qg (ge 2 (Qo (ge 2 (sQ hm (λhm=>Qg (HE (Qe 4 (bi hm λl c hm=>Yy (j:=8) (λd=>⟨sl d 88 [(2,(.ptr 0 0)),(32,(Qp l))],[(QA p0.kind p0.buffer p0.base p0.strides p0.start p0.step p0.mod)]⟩) (λd=>Qe 1 (bi hm λm c hm=>Yy (j:=14) (λd=>⟨sl d 88 [(2,(.ptr 0 0)),(38,(Qp m))],[(QA p0.kind p0.buffer p0.base p0.strides p0.start p0.step p0.mod)]⟩) (λd=>Qe 1 (bi hm λn c hm=>Yy (j:=19) (λd=>⟨sl d 88 [(2,(.ptr 0 0)),(43,(Qp n))],[(QA p0.kind p0.buffer p0.base p0.strides p0.start p0.step p0.mod)]⟩) (λd=>Qe 1 (bi hm λp c hm=>Yy (j:=24) (λd=>⟨sl d 88 [(2,(.ptr 0 0)),(48,(Qp p))],[(QA p0.kind p0.buffer p0.base p0.strides p0.start p0.step p0.mod)]⟩) (λd=>Qe 1 (mU 49 hm (λhm=>re 5 ⟨kr,Qn zf⟩) (λhm=>re 5 ⟨kr,Qn zf⟩))) (λhJ=>mU 44 c (λhm=>Qe 4 zf) (λhm=>Qe 4 zf)))) (λhJ=>mU 39 c (λhm=>Qe 4 zf) (λhm=>Qe 4 zf)))) (λhJ=>mU 33 c (λhm=>Qe 2 (QZ Qf p0.strides (Qe 2 zf))) (λhm=>Qe 5 zf)))) (λhJ=>HD 28 c (λhm=>Qe 4 zf) (λhm=>Qe 4 zf)))))) (λhm=>ge 2 (sQ hm (λhm=>Qg (HE (Qe 2 (QZ Qf p0.strides (Qe 3 (bi hm λq c hm=>Yy (j:=10) (λd=>⟨sl d 88 [(2,(.ptr 0 0)),(65,(Qp q))],[(QA p0.kind p0.buffer p0.base p0.strides p0.start p0.step p0.mod)]⟩) (λd=>Qe 1 (bi hm λe c hm=>Yy (j:=15) (λd=>⟨sl d 88 [(2,(.ptr 0 0)),(70,(Qp e))],[(QA p0.kind p0.buffer p0.base p0.strides p0.start p0.step p0.mod)]⟩) (λd=>Qe 1 (mU 71 hm (λhm=>re 5 ⟨kr,Qn zf⟩) (λhm=>re 5 ⟨kr,Qn zf⟩))) (λhJ=>mU 66 c (λhm=>Qe 4 zf) (λhm=>Qe 4 zf)))) (λhJ=>HD 61 c (λhm=>Qe 4 zf) (λhm=>Qe 4 zf)))))))) (λhm=>ge 2 (sQ hm (λhm=>gr 2 (QZ Qf p0.strides (Qe 3 (HD 83 hm (λhm=>re 5 (Qn zf)) (λhm=>re 5 (Qn zf)))))) (λhm=>Qr (ge 1 (Qn zf))))))))))))))))))
def YL(x:((fj)×(List Qx)×Int×Int)):Option (Unit⊕ Unit):=
 match x with
 |(p0,p1,d,c)=>
 if c<(p0.length:Int)then
  idx p1 d>>=λe=>
  idx e.hi c>>=λf=>
  idx p0 c>>=λg=>
  if f>g then
   some (Sum.inl ())
  else
  YL (p0,p1,d,(W (c+1)))
 else
 some (Sum.inr ())
 partial_fixpoint
theorem S5:∀x r,YL x=some r->match x with|(p0,p1,c,e)=>LQ f47 47 [1,0,1,0,0,1,0,0,1,1,0,0] 0 ⟨kp 80 [(0,(La p0)),(1,(Nw p1)),(5,(Qd c)),(6,(Qd e))],[]⟩ (P2 .ret (λ_ d=>⟨sl d 80 [(4,(Qp false))],[]⟩) (.exit 2) (λ_ d=>⟨sl d 80 [(0,(La p0)),(1,(Nw p1)),(5,(Qd c))],[]⟩) r):=by
 refine YL.partial_correctness _ (λYL S5 x r hm=>?_);obtain⟨p0,p1,c,e⟩:=x;exact lp (Qg (gr 2 (QZ Qf p0 (re 1 (ri hm (λhm=>Qr (Qg (Qo (Qg (ZP (Qe 2 (QY 2 Qx.toD hm λf hm=>Qe 3 (QY 1 Qf hm λg hm=>Qe 3 (QY 1 Qf hm λj hm=>re 2 ⟨kr,ri hm (λhm=>ge 1 (Qn zf)) (λhm=>Qr (gd (re 3 (S5 _ _ hm _ kr))))⟩))))))))) (λhm=>QO zf))))))
def ZS(x:((List Qx)×(fj)×Int)):Option (Unit⊕ Unit):=
 match x with
 |(p1,p0,c)=>
 if c<(p1.length:Int)then
  (idx p1 c>>=λd=>
  X1 d>>=λe=>
  if e=false then
   some true
  else
  idx p1 c>>=λf=>
  some ((f.lo.length:Int) !=(p0.length:Int))
  )>>=λ(g:Bool)=>
  if g=true then
   some (Sum.inl ())
  else
  (
  YL (p0,p1,c,0)>>=λout=>
  match out with
  | .inl _=>
   some (Sum.inl ())
  | .inr (_)=>
   ZS (p1,p0,(W (c+1)))
  )
 else
 some (Sum.inr ())
 partial_fixpoint
theorem SI:∀x r,ZS x=some r->match x with|(p1,p0,c)=>LQ f47 47 [1,0,1,0,0] 0 ⟨kp 80 [(0,(La p0)),(1,(Nw p1)),(5,(Qd c))],[]⟩ (P2 .ret (λ_ d=>⟨sl d 80 [(4,(Qp false))],[]⟩) (.exit 0) (λ_ d=>⟨sl d 80 [(0,(La p0)),(1,(Nw p1))],[]⟩) r):=by
 refine ZS.partial_correctness _ (λZS SI x r hm=>?_);obtain⟨p1,p0,c⟩:=x;exact lp (Qg (gr 2 (QZ Qx.toD p1 (re 1 (ri hm (λhm=>Qr (Qg (Qo (Qg (Qg (bi hm λe k hm=>Xe (λd=>⟨sl d 80 [(0,(La p0)),(1,(Nw p1)),(5,(Qd c)),(33,(Qp e))],[]⟩) (have hm:=k;gd (Qe 2 (QY 2 Qx.toD hm λg hm=>Qe 1 (bi hm λj l hm=>cp (Uq l) (Qe 2 (SA 23 hm (λhm=>re 10 zf) (λhm=>Qe 2 (QY 2 Qx.toD hm λf hm=>Qe 2 (QZ Qf f.lo (Qe 1 (QZ Qf p0 (re 2 zf)))))))))))) (λd=>mr hm (λhm=>ge 1 (Qn zf)) (λhm=>Qr (ge 1 (Qo (rN hm (S5 _) (λ_ d hm=>zf) λ_ d hm=>gd (re 3 (SI _ _ hm _ kr))))))))))))) (λhm=>QO zf))))))
def ZT(x:((List Qx)×(List fj)×Int×Int×Int)):Option (Int):=
 match x with
 |(p1,d,e,f,c)=>
 if c<(p1.length:Int)then
  idx p1 c>>=λg=>
  idx d e>>=λj=>
  Jk (g,j)>>=λk=>
  if k=true then
   ZT (p1,d,e,(W (f+1)),(W (c+1)))
  else
  ZT (p1,d,e,f,(W (c+1)))
 else
 some f
 partial_fixpoint
theorem RN:∀x r,ZT x=some r->match x with|(p1,c,e,f,g)=>LQ f47 47 [1,1,1,0,1,0,0,1,0,0,1,0,1,0,0] 0 ⟨kp 80 [(1,(Nw p1)),(7,(ZI c)),(8,(Qd e)),(9,(Qd f)),(10,(Qd g))],[]⟩ (P1 (.exit 6) (λk d=>⟨sl d 80 [(1,(Nw p1)),(7,(ZI c)),(8,(Qd e)),(9,(Qd k))],[]⟩) r):=by
 refine ZT.partial_correctness _ (λZT RN x r hm=>?_);obtain⟨p1,c,e,f,g⟩:=x;exact lp (Qg (gr 2 (QZ Qx.toD p1 (re 1 (ri hm (λhm=>Qr (Qg (Qo (Qg (ZP (Qe 2 (QY 2 Qx.toD hm λm hm=>Qe 3 (bi hm λj n hm=>Ji 1 (λl=>fy.lst ((List.map Qf) l)) c e j (es:=(List.map (λl=>fy.lst ((List.map Qf) l))) c) (d:=(Lb j)) rfl n rfl rfl (Qe 1 (bi hm λp n hm=>cp (TD n) (Q6 ⟨kr,mr hm (λhm=>gd (re 3 (gd (re 3 (RN _ _ hm _ kr))))) (λhm=>Qr (gd (re 3 (RN _ _ hm _ kr))))⟩))))))))))) (λhm=>QO zf))))))
def Yo(x:((List fj)×(List Qx)×Int)):Option (Unit⊕ Unit):=
 match x with
 |(c,p1,d)=>
 if d<(c.length:Int)then
  ZT (p1,c,d,0,0)>>=λe=>
  if e≠1 then
   some (Sum.inl ())
  else
  Yo (c,p1,(W (d+1)))
 else
 some (Sum.inr ())
 partial_fixpoint
theorem Tn:∀x r,Yo x=some r->match x with|(c,p1,e)=>LQ f47 47 [1,1,1,0,1,0,0] 0 ⟨kp 80 [(1,(Nw p1)),(7,(ZI c)),(8,(Qd e))],[]⟩ (P2 .ret (λ_ d=>⟨sl d 80 [(4,(Qp false))],[]⟩) (.exit 4) (λ_ d=>⟨sl d 80 [],[]⟩) r):=by
 refine Yo.partial_correctness _ (λYo Tn x r hm=>?_);obtain⟨c,p1,e⟩:=x;exact lp (Qg (gr 2 (G3 (λl=>fy.lst ((List.map Qf) l)) c (es:=(List.map (λl=>fy.lst ((List.map Qf) l))) c) rfl (re 1 (ri hm (λhm=>Qr (Qg (Qo (ge 1 (Qg (ge 1 (Qo (nA hm (RN _) λf d hm=>ge 2 (Eo hm (λhm=>ge 1 (Qn zf)) (λhm=>Qr (gd (re 3 (Tn _ _ hm _ kr))))))))))))) (λhm=>QO zf))))))
def R0(x:((fj)×(List Qx))):Option Bool:=
 match x with
 |(p0,p1)=>
 (
 ZS (p1,p0,0)>>=λout=>
 match out with
 | .inl _=>
  some false
 | .inr (_)=>
  Yc p0>>=λc=>
  (
  Yo (c,p1,0)>>=λout=>
  match out with
  | .inl _=>
   some false
  | .inr (_)=>
   some true
  )
 )
theorem Wx{p0 p1 r0}(hm:R0 (p0,p1)=some r0):FQ 47 [(Lb p0),(.lst ((List.map Qx.toD) p1))] (Qp r0):=by
 unfold R0 at hm;exact fp (fn:=f47) rfl (ge 1 (Qg (ge 1 (Qo (rN hm (SI _) (λ_ d hm=>zf) λ_ d hm=>gr 1 (bi hm λc e hm=>cp (Uf e) (re 1 (Qg (ge 1 (Qo (rN hm (Tn _) (λ_ d hm=>zf) λ_ d hm=>ge 1 (Qn zf))))))))))))
def Z8(x:((List Qk)×(fj)×(List Qx)×Int)):Option (((fj)×(fj)×Nat)⊕ (List Qx)):=
 match x with
 |(p1,p0,e,c)=>
 if c<(p1.length:Int)then
  idx p1 c>>=λd=>
  (X1 d.box>>=λ(f:Bool)=>
  (if f=false then
   some true
  else
  X5 d.box>>=λg=>
  some g
  )>>=λ(j:Bool)=>
  (if j=true then
   some true
  else
  idx p1 c>>=λk=>
  XG (k.access,(p0.length:Int))>>=λl=>
  some (!l)
  )>>=λ(m:Bool)=>
  if m=true then
   some true
  else
  if c>0 then
   idx p1 (W (c - 1))>>=λn=>
   Jz (n.box.lo,d.box.lo)>>=λp=>
   some (!p)
  else
  some false
  )>>=λ(q:Bool)=>
  if q=true then
   some (Sum.inl (d.box.lo,d.box.hi,e.length))
  else
  app 48 e ([d.box]:List Qx)>>=λr=>
  Z8 (p1,p0,r,(W (c+1)))
 else
 some (Sum.inr e)
 partial_fixpoint
theorem Tp:∀x r,Z8 x=some r->match x with|(p1,p0,c,f)=>LQ f14 14 [1,1,0,1,0,0] 1 ⟨kp 61 [(0,(La p0)),(1,(NX p1)),(5,(PB c)),(6,(Qd f))],[(.tok 80 c.length)]⟩ (P2 .ret (λ(l,m,n) d=>⟨sl d 61 [(4,(Qp false))],[(.tok 80 n),(QC l m)]⟩) (.exit 0) (λk d=>⟨sl d 61 [(0,(La p0)),(5,(PB k))],[(.tok 80 k.length)]⟩) r):=by
 refine Z8.partial_correctness _ (λZ8 Tp x r hm=>?_);obtain⟨p1,p0,c,f⟩:=x
 exact lp (Qg (gr 2 (QZ Qk.toD p1 (re 1 (ri hm (λhm=>Qr (Qg (Qo (gr 2 (QY 9 Qk.toD hm λe hm=>re 4 (Qg (Qg (bi hm λp q hm=>Xe (λd=>⟨sl d 61 [(0,(La p0)),(1,(NX p1)),(5,(PB c)),(6,(Qd f)),(7,(.ptr 1 0)),(53,(Qp p))],[(.tok 80 c.length),(QC e.box.lo e.box.hi)]⟩) (have hm:=q;Nx (Qe 1 (bi hm λv g hm=>cp (Uq g) (Qe 2 (bi hm λs q hm=>Yy (j:=7) (λd=>⟨sl d 61 [(0,(La p0)),(1,(NX p1)),(5,(PB c)),(6,(Qd f)),(7,(.ptr 1 0)),(25,(Qp s))],[(.tok 80 c.length),(QC e.box.lo e.box.hi)]⟩) (λd=>Qe 1 (bi hm λt q hm=>Yy (j:=18) (λd=>⟨sl d 61 [(0,(La p0)),(1,(NX p1)),(5,(PB c)),(6,(Qd f)),(7,(.ptr 1 0)),(36,(Qp t))],[(.tok 80 c.length),(QC e.box.lo e.box.hi)]⟩) (λd=>Qe 1 (mU 37 hm (λhm=>re 16 ⟨kr,zf⟩) (λhm=>Qe 3 (gs 40 hm (λhm=>Qe 3 (QY 9 Qk.toD hm λw hm=>Qe 5 (bi hm λy g hm=>cp (Va g) (re 3 ⟨kr,zf⟩)))) (λhm=>re 13 ⟨kr,zf⟩))))) (λhJ=>mU 26 q (λhm=>Qe 10 zf) (λhm=>Qe 2 (QY 9 Qk.toD hm λz hm=>Qe 3 (QZ Qf p0 (bi hm λA g hm=>cp (U1 g) (Qe 2 zf)))))))) (λhJ=>SA 22 q (λhm=>Qe 3 zf) (λhm=>Qe 1 (bi hm λB g hm=>cp (VK g) (Qe 1 zf))))))))) (λd=>mr hm (λhm=>ge 1 (Qn zf)) (λhm=>Qr (gd (Qe 3 (bi hm λu g hm=>Jh 80 2 48 0 Qx.toD c ([e.box]:List Qx) u (xs:=(List.map Qx.toD) c) (es:=(List.map Qx.toD) ([e.box]:List Qx)) (L:=(List.map Qx.toD)) yB rfl rfl Qx.fit g (re 1 (gd (re 3 (Tp _ _ hm _ kr))))))))))))))))) (λhm=>QO zf))))))
def J4(x:((fj)×(List Qk))):Option Bool:=
 match x with
 |(p0,p1)=>
 (
 Z8 (p1,p0,([]:List Qx),0)>>=λout=>
 match out with
 | .inl (e,f,g)=>
  some false
 | .inr (c)=>
  R0 (p0,c)>>=λd=>
  some d
 )
theorem Vp{p0 p1 r0}(hm:J4 (p0,p1)=some r0):FQ 14 [(Lb p0),(.lst ((List.map Qk.toD) p1))] (Qp r0):=by
 unfold J4 at hm;exact fp (fn:=f14) rfl (ge 1 (ge 1 (Qg (ge 1 (Qo (rN hm (Tp _) (λ⟨c,e,f⟩ d hm=>zf) λg d hm=>gr 2 (bi hm λj k hm=>cp (Wx k) (re 1 (Qn zf)))))))))
def ZQ(x:((List Qi)×Int×Int)):Option (Int):=
 match x with
 |(f,d,c)=>
 if c<(f.length:Int)then
  idx f c>>=λe=>
  if e.fill=true then
   ZQ (f,(W (d+1)),(W (c+1)))
  else
  ZQ (f,d,(W (c+1)))
 else
 some d
 partial_fixpoint
theorem R6:∀x r,ZQ x=some r->match x with|(g,c,e)=>LQ f26 26 [1,1,1,1,1,0,1,0,0] 0 ⟨kp 32 [(6,(Qd c)),(7,(TC g)),(8,(Qd e))],[]⟩ (P1 (.exit 0) (λf d=>⟨sl d 32 [(6,(Qd f))],[]⟩) r):=by
 refine ZQ.partial_correctness _ (λZQ R6 x r hm=>?_);obtain⟨g,c,e⟩:=x;exact lp (Qg (gr 2 (QZ Qi.toD g (re 1 (ri hm (λhm=>Qr (Qg (Qo (gr 2 (QY 3 Qi.toD hm λj hm=>re 2 (mr hm (λhm=>gd (re 3 (gd (re 3 (R6 _ _ hm _ kr))))) (λhm=>Qr (gd (re 3 (R6 _ _ hm _ kr)))))))))) (λhm=>QO zf))))))
def YQ(x:((fj)×(List Qa))):Option Int:=
 match x with
 |(p0,p1)=>
 Ps p1>>=λd=>
 J4 (p0,d)>>=λv2=>
 if v2=false then
  some (-1)
 else
 Xu (p0,d)>>=λe=>
 ZQ (e,0,0)>>=λc=>
 some c
def Ut:((fj)×(List Qa))->Int->Prop:=λx r=>match x,r with
 |(p0,p1),c=>∀H,PC prog env 26 ([(Lb p0),(.lst ((List.map Qa.toD) p1))].map .dat) H (Qd c) H
theorem RK:∀x r,YQ x=some r->Ut x r:=by
 intro x f hm;unfold YQ at hm;unfold Ut;obtain⟨p0,p1⟩:=x;intro H;refine sA (ds:=[(Lb p0),(.lst ((List.map Qa.toD) p1))]) (fn:=f26) rfl ?_;exact ge 1 (gr 1 (bi hm λg c hm=>Y3 (VJ _ _ c []) (re 1 (Qg (gr 2 (bi hm λv2 c hm=>cp (Vp c) (re 1 (HF hm (λhm=>ge 1 (Qn zf)) (λhm=>Qr (ge 1 (gr 2 (bi hm λj c hm=>cp (Vd c) (re 1 (Qg (ge 1 (Qo (nA hm (R6 _) λe d hm=>ge 2 (Qn zf))))))))))))))))))
def R5(x:(Qb×(List fj)×Int×Int)):Option Bool:=
 match x with
 |(p0,p1,s,t)=>
 (RW ()>>=λ(v2:Bool)=>
 (if v2=false then
  some true
 else
 PZ (p0,p1,200)>>=λu=>
 some (!u)
 )>>=λ(v:Bool)=>
 (if v=true then
  some true
 else
 some ((p0.shape.length:Int)==0)
 )>>=λ(w:Bool)=>
 if w=true then
  some true
 else
 YC p0.shape>>=λy=>
 some (y==0)
 )>>=λ(z:Bool)=>
 if z=true then
  RW ()>>=λA=>
  some A
 else
 Jv p0>>=λc=>
 mX (W (s)) (p0.shape.length:Int)>>=λg=>
 YS c>>=λd=>
 YS (⟨3,p0.shape,0,([]:(fj)),g,0,([]:(fj)),([(⟨c.kind,c.shape,c.buffer,c.starts,c.axis,c.amount,c.perm,c.kids⟩:Qj)]:(List Qj))⟩:Qj)>>=λf=>
 idx p0.shape g>>=λj=>
 mX (W (t)) j>>=λk=>
 YS (⟨4,p0.shape,0,([]:(fj)),g,k,([]:(fj)),([(⟨c.kind,c.shape,c.buffer,c.starts,c.axis,c.amount,c.perm,c.kids⟩:Qj)]:(List Qj))⟩:Qj)>>=λe=>
 (if(f.length:Int)=(d.length:Int)then
  some (decide ((e.length:Int)>=(d.length:Int)))
 else
 some false
 )>>=λ(l:Bool)=>
 (if l=true then
  some (decide ((e.length:Int)<=(W (2*(d.length:Int)))))
 else
 some false
 )>>=λ(m:Bool)=>
 (if m=true then
  YQ (p0.shape,f)>>=λn=>
  YQ (p0.shape,d)>>=λp=>
  some (n==p)
 else
 some false
 )>>=λ(q:Bool)=>
 if q=true then
  YQ (p0.shape,e)>>=λv20=>
  YQ (p0.shape,d)>>=λr=>
  some (v20==r)
 else
 some false
def Ug:(Qb×(List fj)×Int×Int)->Bool->Prop:=λx r=>match x,r with
 |(p0,p1,c,d),e=>∀H,PC prog env 6 ([(Qb.ex p0),(.lst ((List.map (λl=>fy.lst ((List.map Qf) l))) p1)),(uA .u8 c),(uA .u8 d)].map .dat) H (Qp e) H
theorem w_law20_DnfFew:∀x r,R5 x=some r->Ug x r:=by
 intro x D hm;unfold R5 at hm;unfold Ug;obtain⟨p0,p1,n,p⟩:=x;intro H;refine sA (ds:=[(Qb.ex p0),(.lst ((List.map (λl=>fy.lst ((List.map Qf) l))) p1)),(uA .u8 n),(uA .u8 p)]) (fn:=f6) rfl ?_
 exact ge 2 (Qg (Qg (bi hm λv g hm=>Xe (λd=>⟨sl d 109 [(2,(.dat (uA .u8 n))),(3,(.dat (uA .u8 p))),(4,(.ptr 0 0)),(33,(Qp v))],(QJ p0.kind p0.shape p0.buffer p0.starts p0.axis p0.amount p0.perm p0.kids)⟩) (have hm:=g;HE (bi hm λv2 c hm=>Y3 (TO _ _ c []) (Qe 2 (bi hm λw g hm=>Yy (j:=8) (λd=>⟨sl d 109 [(2,(.dat (uA .u8 n))),(3,(.dat (uA .u8 p))),(4,(.ptr 0 0)),(21,(Qp w))],(QJ p0.kind p0.shape p0.buffer p0.starts p0.axis p0.amount p0.perm p0.kids)⟩) (λd=>Qe 1 (bi hm λy g hm=>Yy (j:=14) (λd=>⟨sl d 109 [(2,(.dat (uA .u8 n))),(3,(.dat (uA .u8 p))),(4,(.ptr 0 0)),(27,(Qp y))],(QJ p0.kind p0.shape p0.buffer p0.starts p0.axis p0.amount p0.perm p0.kids)⟩) (λd=>Qe 1 (mU 28 hm (λhm=>re 5 ⟨kr,zf⟩) (λhm=>Qe 2 (bi hm λE c hm=>cp (Ue c) (re 2 ⟨kr,zf⟩))))) (λhJ=>mU 22 g (λhm=>Qe 5 zf) (λhm=>Qe 2 (QZ Qf p0.shape (Qe 2 zf)))))) (λhJ=>SA 16 g (λhm=>Qe 5 zf) (λhm=>Qe 2 (bi hm λF c hm=>cp (VT c) (Qe 2 zf)))))))) (λd=>mr hm (λhm=>Qg (gd (bi hm λG c hm=>Y3 (TO _ _ c []) (re 1 (Qn zf))))) (λhm=>Qr (gr 1 (bi hm λe c hm=>Y3 (Sa _ _ c []) (re 2 (gr 4 (QZ Qf p0.shape (bi hm λI c hm=>QB rfl (λ_=>NT (a:=(W (n))) (b:=(p0.shape.length:Int)) c rfl kr kr) (re 1 (gr 1 (bi hm λf c hm=>cp (SC c) (re 1 (gr 6 (bi hm λm c hm=>cp (SC c) (re 1 (Qg (ZP (Qe 8 (QY 1 Qf hm λq hm=>Qe 1 (bi hm λz c hm=>QB rfl (λ_=>NT (a:=(W (p))) (b:=q) c rfl kr kr) (Qe 3 (bi hm λk c hm=>cp (SC c) (re 1 ⟨kr,Qg (Nx (Qe 1 (QZ Qa.toD m (Qe 1 (QZ Qa.toD f (Qe 2 (bi hm λs g hm=>Yy (j:=12) (λd=>⟨sl d 109 [(4,(.ptr 0 0)),(11,(QX f)),(12,(QX m)),(13,(QX k)),(78,(Qp s))],[(Pr p0.kind p0.shape p0.buffer p0.starts p0.axis p0.amount p0.perm p0.kids),(Sw e.kind e.shape e.buffer e.starts e.axis e.amount e.perm e.kids)]⟩) (λd=>Qe 1 (bi hm λt g hm=>Yy (j:=20) (λd=>⟨sl d 109 [(4,(.ptr 0 0)),(11,(QX f)),(12,(QX m)),(13,(QX k)),(86,(Qp t))],[(Pr p0.kind p0.shape p0.buffer p0.starts p0.axis p0.amount p0.perm p0.kids),(Sw e.kind e.shape e.buffer e.starts e.axis e.amount e.perm e.kids)]⟩) (λd=>Qe 1 (bi hm λu g hm=>Yy (j:=31) (λd=>⟨sl d 109 [(4,(.ptr 0 0)),(11,(QX f)),(13,(QX k)),(97,(Qp u))],[(Pr p0.kind p0.shape p0.buffer p0.starts p0.axis p0.amount p0.perm p0.kids),(Sw e.kind e.shape e.buffer e.starts e.axis e.amount e.perm e.kids)]⟩) (λd=>Qe 1 (mU 98 hm (λhm=>Qe 3 (bi hm λv20 c hm=>Y3 (RK _ _ c []) (Qe 3 (bi hm λA c hm=>Y3 (RK _ _ c []) (re 3 ⟨kr,Qn zf⟩))))) (λhm=>re 11 ⟨kr,Qn zf⟩))) (λhJ=>mU 87 g (λhm=>Qe 3 (bi hm λB c hm=>Y3 (RK _ _ c []) (Qe 3 (bi hm λC c hm=>Y3 (RK _ _ c []) (Qe 2 zf))))) (λhm=>Qe 10 zf)))) (λhJ=>mU 79 g (λhm=>Qe 1 (QZ Qa.toD k (Qe 1 (QZ Qa.toD f (Qe 3 zf))))) (λhm=>Qe 7 zf)))) (λhJ=>HD 72 g (λhm=>Qe 1 (QZ Qa.toD k (Qe 1 (QZ Qa.toD f (Qe 2 zf))))) (λhm=>Qe 6 zf)))))))))⟩))))))))))))))))))))))))))
theorem B8:∀(s t p q:fj),s.length=t.length->p.length=q.length->Sm (p++s).length->Ym (p++s,q++t,(p.length:Int))=some (if s=t then .inr ()else .inl ())
 |[],[],p,q,_,_,c=>by
  rw[Ym];simp only[Za,aj,ak]
 |x::s,y::t,p,q,f,d,c=>by
  rw[Ym];have e:=B8 s t (p++[x]) (q++[y]) (by simpa using f) (by simp[d]) (by rw[<-Qv];exact c);rw[<-Qv,<-Qv]at e;simp only[Q4,ak,Qy,Qc,lk c,e];rw[d,Qy];by_cases g:x=y<;>simp[g,Qc]
 |[],_::_,_,_,h,_,_=>by cases h
 |_::_,[],_,_,h,_,_=>by cases h
theorem Iv(a b:fj)(g:Sm a.length):XF (a,b)=some (decide (a=b)):=by
 simp only[XF];by_cases h:a.length=b.length
 .have e:=B8 a b [] [] h rfl g;have d:¬((a.length:Int)≠(b.length:Int)):=by omega
  simp only[d,aj];have f:Ym (a,b,0)=_:=e;rw[f];by_cases c:a=b
  .subst c;simp
  .rw[af c,zZ c];rfl
 .have d:((a.length:Int)≠(b.length:Int)):=by omega
  have f:a≠b:=λe=>h (by rw[e])
  rw[ai d,zZ f]
def fw(l:fj):Int:=l.foldl (· * ·) 1
def lI(l:fj):Bool:=l.any λd=>decide (d<0)
def lH(l:fj):Bool:=l.any λd=>decide (d>65536)
def sK(l:fj):Int×Int:=if lI l then(0,6)else if lH l then(0,7)else if fw l>65536 then(0,7)else(fw l,0)
def fH(l:fj):Int:=if lI l then 6 else if l.length>16\/lH l=true\/fw l>65536 then 7 else 0
def iS(l:fj):Int:=if fH l=0 then fw l else 0
theorem qy:∀(l:fj) (x:Int),l.foldl (· * ·) x=x*l.foldl (· * ·) 1
 |[],x=>by simp
 |d::l,x=>by rw[cd,qy l (x*d),cd,qy l (1*d),cq,bF]
theorem fV(d:Int)(l:fj):fw (d::l)=d*fw l:=by rw[fw,cd,qy,cq];rfl
theorem ib:fw []=1:=rfl
theorem jv(a b:fj):fw (a++b)=fw a*fw b:=by rw[fw,fw,fw,List.foldl_append,qy]
theorem fM:∀{l:fj},(∀d∈l,1<=d)->1<=fw l
 |[],_=>by simp[fw]
 |d::l,h=>by
  have c:=fM (l:=l) (λx e=>h x (jG _ e));have f:=h d (jM ..);rw[fV];have:=bg f c y8 y8;omega
theorem rL{l:fj}(h:(0:Int)∈l):fw l=0:=by
 obtain⟨s,t,rfl⟩:=List.append_of_mem h;rw[jv,fV];simp
theorem td(d:Int)(l:fj):lI (d::l)=(decide (d<0)||lI l):=rfl
theorem yS(d:Int)(l:fj):lH (d::l)=(decide (d>65536)||lH l):=rfl
theorem Fo:∀(s p:fj) (z:Bool),Sm (p++s).length->Zr (p++s,z,(p.length:Int))=some (if lI s then .inl ()else .inr (z||s.any (· ==0)))
 |[],p,z,c=>by
  rw[Zr];simp only[Za,aj];simp[lI]
 |x::s,p,z,c=>by
  rw[Zr];have d:=λz=>Fo s (p++[x]) z (by rw[<-Qv];exact c)
  rw[<-Qv]at d;simp only[Q4,ak,Qy,Qc,lk c,d,td];by_cases hn:x<0
  .simp[hn]
  .cases z<;>by_cases e:x=0<;>simp[hn,e]
theorem FB:∀(s p:fj) (z:Bool),Sm (p++s).length->ZB (p++s,z,(p.length:Int))=some (if lH s then .inl ()else .inr ())
 |[],p,z,c=>by
  rw[ZB];simp only[Za,aj];simp[lH]
 |x::s,p,z,c=>by
  rw[ZB];have d:=FB s (p++[x]) z (by rw[<-Qv];exact c);rw[<-Qv]at d;simp only[Q4,ak,Qy,Qc,lk c,d,yS];by_cases hn:x>65536<;>simp[hn]
theorem Fh:∀(s p:fj) (m:Int),Sm (p++s).length->(∀d∈s,1<=d/\d<=65536)->1<=m->m<=65536->ZC (p++s,m,(p.length:Int))=some (if m*fw s>65536 then .inl ()else .inr (m*fw s))
 |[],p,m,e,f,g,j=>by
  rw[ZC];simp only[Za,aj,ib,bO];rw[af y8]
 |x::s,p,m,e,f,g,j=>by
  rw[ZC];have k:=f x (jM ..);have b1:=bg j k.2 y8 y8;have b2:=bg g k.1 y8 y8;have hw:W (m*x)=m*x:=lg y8 y8;have c:∀d∈s,1<=d/\d<=65536:=λd h=>f d (jG _ h)
  simp only[Q4,ak,Qy,Qc,lk e,hw,fV];rw[<-bF];by_cases hn:m*x>65536
  .have q:=fM (l:=s) (λd h=>(c d h).1)
   have:m*x*1<=m*x*fw s:=bn q y8
   rw[ai hn,ai y8]
  .have n:=Fh s (p++[x]) (m*x) (by rw[<-Qv];exact e) c y8 y8;rw[<-Qv]at n;rw[af hn,n]
theorem AU{l:fj}(h:lI l=false):∀d∈l,0<=d:=λd c=>by
 have:=bp.1 h d c;simp at this;omega
theorem zp{l:fj}(h:lH l=false):∀d∈l,d<=65536:=λd c=>by
 have:=bp.1 h d c;simp at this;omega
theorem wB(l:fj)(j:Sm l.length):XT l=some (sK l):=by
 have p:Zr (l,false,0)=_:=Fo l [] false j;have q:∀z,ZB (l,z,0)=_:=λz=>FB l [] z j
 simp only[XT,p,Qc,sK];by_cases hn:lI l=true
 .simp[hn]
 .have c:lI l=false:=by simpa using hn
  simp only[c,j6,aj,cE,q,Qc];by_cases n:lH l=true
  .simp[n]
  .have f:lH l=false:=by simpa using n
   simp only[f,j6,aj];by_cases k:(l.any (· ==0))=true
   .have:fw l=0:=rL (by simpa using k)
    simp[k,this]
   .have g:l.any (· ==0)=false:=(bb _).mp k
    have r:ZC (l,1,0)=_:=Fh l [] 1 j (λd m=>by
     have t:=AU c d m;have u:=zp f d m;have v:d≠0:=λe=>by have:=bp.1 g d m;simp[e]at this
     omega) y8 y8
    simp only[g,j6,aj,r,Qc,cq];by_cases s:fw l>65536<;>simp[s]
theorem B3:∀(s p:fj),Sm (p++s).length->Yl (p++s,(p.length:Int))=some (if lI s then .inl ()else .inr ())
 |[],p,c=>by
  rw[Yl];simp only[Za,aj];simp[lI]
 |x::s,p,c=>by
  rw[Yl];have d:=B3 s (p++[x]) (by rw[<-Qv];exact c);rw[<-Qv]at d;simp only[Q4,ak,Qy,Qc,lk c,d,td];by_cases hn:x<0<;>simp[hn]
theorem qa(l:fj)(c:Sm l.length):XE l=some (fH l):=by
 have e:Yl (l,0)=_:=B3 l [] c;simp only[XE,e,Qc,fH,wB l c];by_cases hn:lI l=true
 .simp[hn]
 .simp only[hn,aj,sK,j6];by_cases hl:l.length>16
  .have:(l.length:Int)>16:=by omega
   simp[hl,this,Qc]
  .have:¬(l.length:Int)>16:=by omega
   by_cases d:lH l=true
   .simp[hl,this,d,Qc]
   .by_cases f:fw l>65536<;>simp[hl,this,d,f,Qc]
theorem Dg:∀(s p:fj),Sm (p++s).length->∃r,QE (p++s,(p.length:Int))=some r/\(lI s=true->∃j:Nat,r=.inl (j:Int))/\(lI s=false->r=.inr ())
 |[],p,c=>by
  rw[QE];simp only[Za,aj];exact⟨_,rfl,λh=>(by cases h),λ_=>rfl⟩
 |x::s,p,c=>by
  rw[QE];obtain⟨r,d,e,f⟩:=Dg s (p++[x]) (by rw[<-Qv];exact c);rw[<-Qv]at d;simp only[Q4,ak,Qy,Qc,lk c,Rn,td];by_cases hn:x<0
  .simp only[hn,decide_true,ak];exact⟨_,rfl,λ_=>⟨_,rfl⟩,λh=>by simp at h⟩
  .simp only[hn,y3,j6,aj,cE];exact⟨r,d,e,f⟩
theorem Li(l:fj)(c:Sm l.length):Q2 l=some (lI l):=by
 obtain⟨r,d,f,g⟩:=Dg l [] c;have e:QE (l,0)=some r:=d;simp only[Q2,Zm,e,Qc];cases hn:lI l
 .rw[g hn];rfl
 .obtain⟨j,rfl⟩:=f hn;simp[Qc]
theorem C1:∀(s p:fj),Sm (p++s).length->∃r,QF (p++s,(p.length:Int))=some r/\(lH s=true->∃j:Nat,r=.inl (j:Int))/\(lH s=false->r=.inr ())
 |[],p,c=>by
  rw[QF];simp only[Za,aj];exact⟨_,rfl,λh=>(by cases h),λ_=>rfl⟩
 |x::s,p,c=>by
  rw[QF];obtain⟨r,d,e,f⟩:=C1 s (p++[x]) (by rw[<-Qv];exact c);rw[<-Qv]at d;simp only[Q4,ak,Qy,Qc,lk c,RO,yS];by_cases hn:x>65536
  .simp only[hn,decide_true,ak];exact⟨_,rfl,λ_=>⟨_,rfl⟩,λh=>by simp at h⟩
  .simp only[hn,y3,j6,aj,cE];exact⟨r,d,e,f⟩
theorem KT(l:fj)(c:Sm l.length):Q3 l=some (lH l):=by
 obtain⟨r,d,f,g⟩:=C1 l [] c;have e:QF (l,0)=some r:=d;simp only[Q3,Zn,e,Qc];cases hn:lH l
 .rw[g hn];rfl
 .obtain⟨j,rfl⟩:=f hn;simp[Qc]
def OV(l:fj):Int:=if lI l then 6 else if lH l then 7 else 0
theorem A3(l:fj)(c:Sm l.length):Pp l=some (OV l):=by
 simp only[Pp,Li l c,KT l c,Qc,OV];by_cases d:lI l=true
 .simp[d]
 .by_cases e:lH l=true<;>simp[d,e]
theorem Cu(v:Int):∀(s p:fj),Sm (p++s).length->∃r,Q7 (p++s,v,(p.length:Int))=some r/\(s.any (v== ·)=true->∃j:Nat,r=.inl (j:Int))/\(s.any (v== ·)=false->r=.inr ())
 |[],p,c=>by
  rw[Q7];simp only[Za,aj];exact⟨_,rfl,λh=>(by cases h),λ_=>rfl⟩
 |x::s,p,c=>by
  rw[Q7];obtain⟨r,d,e,f⟩:=Cu v s (p++[x]) (by rw[<-Qv];exact c);rw[<-Qv]at d;simp only[Q4,ak,Qy,Qc,lk c];by_cases hn:v=x
  .rw[ai hn];exact⟨_,rfl,λ_=>⟨_,rfl⟩,λh=>by simp[hn]at h⟩
  .rw[af hn];exact⟨r,d,λh=>e (by simpa[hn]using h),λh=>f (by simpa[hn]using h)⟩
theorem CG(l:fj)(v:Int)(c:Sm l.length):Ys (l,v)=some (l.any (v== ·)):=by
 obtain⟨r,d,f,g⟩:=Cu v l [] c;have e:Q7 (l,v,0)=some r:=d;simp only[Ys,XC,e,Qc];cases hn:l.any (v== ·)
 .rw[g hn];rfl
 .obtain⟨j,rfl⟩:=f hn;simp[Qc]
theorem Ob{a b:Int}(f:1<=a/\a<=65536)(g:1<=b/\b<=65536):Ra (a,b,65536)=some (if a*b>65536 then(0,false)else(a*b,true)):=by
 have m1:=bg f.2 g.2 y8 y8;have m2:=bg f.1 g.1 y8 y8;have d:(65536:Int).tdiv b=65536/b:=dK y8;have j:(65536:Int)/b<=65536:=Int.ediv_le_self _ y8;have k:0<=(65536:Int)/b:=dp y8 y8
 have l:A5 65536 b=some (65536/b):=by
  rw[A5,af y8,d,lg y8 y8]
 have e:(a>65536/b)=(a*b>65536):=by
  have:=Int.ediv_lt_iff_lt_mul (a:=65536) (b:=a) (c:=b) y8;simp only[gt_iff_lt,eq_iff_iff];exact this
 simp only[Ra,show¬a<0 by omega,show¬b<0 by omega,show¬a>65536 by omega,show¬b>65536 by omega,show b>0 by omega,aj,ak,l,Qc,e,y3,j6];by_cases h:a*b>65536
 .simp[h]
 .simp only[h,y3,Qc,j6,aj];rw[lg y8 y8]
theorem C4:∀(s p:fj) (m:Int),Sm (p++s).length->(∀d∈s,1<=d/\d<=65536)->1<=m->m<=65536->
  ∃r,QP (p++s,m,(p.length:Int))=some r/\(m*fw s>65536->∃v,r=.inl v)/\(¬m*fw s>65536->r=.inr (m*fw s))
 |[],p,m,e,f,g,j=>by
  rw[QP];simp only[Za,aj,ib,bO];exact⟨_,rfl,λh=>y8,λ_=>rfl⟩
 |x::s,p,m,e,f,g,j=>by
  rw[QP];have k:=f x (jM ..);have c:∀d∈s,1<=d/\d<=65536:=λd h=>f d (jG _ h)
  have b2:=bg g k.1 y8 y8;simp only[Q4,ak,Qy,Qc,lk e,Ru,Ob ⟨g,j⟩ k,fV];rw[<-bF];by_cases hn:m*x>65536
  .have q:=fM (l:=s) (λd h=>(c d h).1)
   have:m*x*1<=m*x*fw s:=bn q y8
   simp only[hn,ak,Qc];exact⟨_,rfl,λ_=>⟨_,rfl⟩,λh=>absurd h y8⟩
  .obtain⟨r,n,t,u⟩:=C4 s (p++[x]) (m*x) (by rw[<-Qv];exact e) c y8 y8;rw[<-Qv]at n;simp only[hn,aj,Qc,jO];exact⟨r,n,t,u⟩
theorem um(l:fj)(m:Sm l.length):Jf l=some (sK l):=by
 simp only[Jf,A3 l m,Qc,Yp,sK,OV];by_cases hn:lI l=true
 .simp[hn,Qc]
 .have c:lI l=false:=(bb _).mp hn;by_cases p:lH l=true
  .simp[hn,p,Qc]
  .have f:lH l=false:=(bb _).mp p;simp only[c,f,j6,aj,ak,CG l 0 m,Qc];by_cases j:l.any ((0:Int)== ·)=true
   .have h0:(0:Int)∈l:=by
     obtain⟨x,t,u⟩:=db.1 j
     have:(0:Int)=x:=by simpa using u
     rw[this];exact t
    have:=rL h0;simp[j,this,Qc]
   .have g:∀d∈l,1<=d/\d<=65536:=λd n=>by
     have z:=AU c d n;have A:=zp f d n;have B:d≠0:=λe=>j (db.2 ⟨d,n,by simp[e]⟩)
     omega
    obtain⟨r,w,q,s⟩:=C4 l [] 1 m g y8 y8;have y:QP (l,1,0)=some r:=w;rw[cq]at q s;simp only[j,aj,Qc,Yq,y,ne_eq,not_true];by_cases k:fw l>65536
    .obtain⟨v,rfl⟩:=q k;simp[k,Qc]
    .rw[s k];simp[k,Qc]
theorem nG(l:fj)(f:Sm l.length):JN l=some (fH l):=by
 simp only[JN,um l f,Qc,sK,fH];by_cases hn:lI l=true
 .simp[hn,Qc]
 .by_cases hl:l.length>16
  .have c:(l.length:Int)>16:=by omega
   by_cases d:lH l=true
   .simp[hn,d,hl,c,Qc]
   .by_cases e:fw l>65536<;>simp[hn,d,e,hl,c,Qc]
  .have c:¬(l.length:Int)>16:=by omega
   by_cases d:lH l=true
   .simp[hn,d,hl,c,Qc]
   .by_cases e:fw l>65536<;>simp[hn,d,e,hl,c,Qc]
theorem lZ(l:fj)(d:Sm l.length):YC l=some (iS l):=by
 simp only[YC,qa l d,Qc,wB l d,iS];by_cases hc:fH l=0
 .have:(sK l).1=fw l:=by
   unfold fH at hc;unfold sK;by_cases hn:lI l=true
   .simp[hn]at hc
   .by_cases c:lH l=true
    .simp[hn,c]at hc
    .by_cases e:fw l>65536
     .simp[hn,c,e]at hc
     .simp[hn,c,e]
  simp[hc,this]
 .simp[hc]
def iB:fj->fj->Bool
 |[],[]=>true
 |n::s,x::i=>(decide (0<=x) &&decide (x<n)) &&iB s i
 |_,_=>false
theorem il:∀{s i:fj},iB s i=true->s.length=i.length
 |[],[],_=>rfl
 |n::s,x::i,h=>by
  simp only[iB,jE]at h;simp[il h.2]
 |[],_::_,h=>by cases h
 |_::_,[],h=>by cases h
theorem IT:∀{s i:fj},s.length≠i.length->iB s i=false
 |[],[],h=>absurd rfl h
 |n::s,x::i,h=>by rw[iB,IT (λe=>h (by simp[e])),dz]
 |[],_::_,_=>rfl
 |_::_,[],_=>rfl
theorem mo:∀{s i:fj},iB s i=true->∀k,k<s.length->0<=i.getD k 0/\i.getD k 0<s.getD k 0
 |[],_,_,k,c=>by cases c
 |n::s,x::i,h,k,c=>by
  simp only[iB,jE,zD]at h;cases k with
  |zero=>simpa using h.1
  |succ k=>simpa using mo h.2 k (by simpa using c)
 |_::_,[],h,_,_=>by cases h
theorem D2:∀{s i:fj},s.length=i.length->(∀k,k<s.length->0<=i.getD k 0/\i.getD k 0<s.getD k 0)->iB s i=true
 |[],[],_,_=>rfl
 |n::s,x::i,h,c=>by
  simp only[iB,jE,zD];exact⟨by simpa using c 0 yA,D2 (by simpa using h) λk d=>by simpa using c (k+1) (by simpa using d)⟩
 |[],_::_,h,_=>by cases h
 |_::_,[],h,_=>by cases h
theorem jo{l:fj}{j:Nat}{v:Int}(h:j<l.length):iL l (j:Int) v=some (l.set j v):=by simp[iL,h]
theorem fI{p:Prop}[Decidable p](h:p):QR p=some ():=ai h
theorem qH{c:Type}{p s:List c}{x y:c}:(p++x::s).set p.length y=(p++[y])++s:=by simp
def D3(l st:fj):fj:=List.zipWith (λx n=>W (x+n)) l st
def O2(l s:fj)(j r:Int):Prop:=∀a∈l.zip s,a.1=j->r<=a.2
theorem Nq(d p0:Qb):∀(s t p q:fj),d.shape=p++s->p0.perm=q++t->s.length=t.length->p.length=q.length->Sm (p++s).length->
  ∃o,Zi (d,p0,(p.length:Int))=some o/\(o=.inr ()->∀x∈t,0<=x/\x<(p0.shape.length:Int))
 |[],[],p,q,c,f,_,g,j=>by
  rw[Zi];simp only[c,Za,aj];exact⟨_,rfl,λ_ x h=>by cases h⟩
 |n::s,x::t,p,q,c,f,r,g,j=>by
  rw[Zi];obtain⟨o,e,u⟩:=Nq d p0 s t (p++[n]) (q++[x]) (by rw[c];simp) (by rw[f];simp) (by simpa using r) (by simp[g]) (by rw[<-Qv];exact j);have hi:idx (q++x::t) (p.length:Int)=some x:=by rw[g];exact Qy
  simp only[c,f,Q4,ak,hi,Qc,lk j,e];by_cases k:x<0
  .simp only[k,ak,Qc];exact⟨_,rfl,λh=>by cases h⟩
  .by_cases m:x>=(p0.shape.length:Int)
   .simp only[k,m,aj,decide_true,Qc,ak];exact⟨_,rfl,λh=>by cases h⟩
   .simp only[k,m,aj,y3,Qc,j6];refine⟨o,rfl,λh y l=>?_⟩;rcases aq.1 l with rfl|l
    .omega
    .exact u h y l
 |[],_::_,_,_,_,_,h,_,_=>by cases h
 |_::_,[],_,_,_,_,h,_,_=>by cases h
theorem NN(l p0:Qb)(j:Int):∀(s t p q:fj) (v:Int),l.shape=p++s->p0.perm=q++t->s.length=t.length->p.length=q.length->Sm (p++s).length->
  ∃r,Q8 (l,p0,j,v,(p.length:Int))=some r/\((∀n∈s,0<=n)->(0<=v->r<=v)/\O2 t s j r)
 |[],[],p,q,v,u,y,_,z,A=>by
  rw[Q8];simp only[u,Za,aj];exact⟨_,rfl,λ_=>⟨λ_=>aC _,λa c=>by cases c⟩⟩
 |n::s,x::t,p,q,v,u,y,E,z,A=>by
  rw[Q8];have B:=λv=>NN l p0 j s t (p++[n]) (q++[x]) v (by rw[u];simp) (by rw[y];simp) (by simpa using E) (by simp[z]) (by rw[<-Qv];exact A)
  have hi:idx (q++x::t) (p.length:Int)=some x:=by rw[z];exact Qy
  simp only[u,y,Q4,ak,hi,Qc,Qy,lk A]
  have new:∃r,Q8 (l,p0,j,n,((p++[n]).length:Int))=some r/\((∀m∈n::s,0<=m)->r<=n/\O2 (x::t) (n::s) j r):=by
   obtain⟨r,e,d⟩:=B n;refine⟨r,e,λh=>?_⟩;obtain⟨f,g⟩:=d (λm hm=>h m (jG _ hm));have w:=f (h n (jM ..))
   exact⟨w,λa c=>by
    rcases aq.1 c with rfl|c
    .exact λ_=>w
    .exact g a c⟩
  by_cases k:x=j
  .simp only[k,ak];by_cases C:v<0
   .simp only[C,ak,Qc];obtain⟨r,e,d⟩:=new;exact⟨r,e,λh=>⟨λD=>by omega,by have:=(d h).2;rwa [k]at this⟩⟩
   .by_cases hn:n<v
    .simp only[C,hn,aj,Qc,decide_true,ak];obtain⟨r,e,d⟩:=new;exact⟨r,e,λh=>⟨λD=>by have:=(d h).1;omega,by have:=(d h).2;rwa [k]at this⟩⟩
    .simp only[C,hn,aj,Qc,y3,j6];obtain⟨r,e,d⟩:=B v;refine⟨r,e,λh=>?_⟩;obtain⟨f,g⟩:=d (λm hm=>h m (jG _ hm));have w:=f y8
     exact⟨λ_=>w,λa c=>by
      rcases aq.1 c with rfl|c
      .exact λ_=>by show r<=n;omega
      .exact g a c⟩
  .simp only[k,aj,Qc,j6];obtain⟨r,e,d⟩:=B v;refine⟨r,e,λh=>?_⟩;obtain⟨f,g⟩:=d (λm hm=>h m (jG _ hm))
   exact⟨f,λa c=>by
    rcases aq.1 c with rfl|c
    .exact λD=>absurd D k
    .exact g a c⟩
 |[],_::_,_,_,_,_,_,h,_,_=>by cases h
 |_::_,[],_,_,_,_,_,h,_,_=>by cases h
theorem NJ(c p0:Qb)(hl:c.shape.length=p0.perm.length)(l:Sm c.shape.length):∀(s p:fj),p0.shape=p++s->Sm (p++s).length->
  ∃o,Zj (p0,c,(p.length:Int))=some o/\(o=.inr ()->(∀n∈c.shape,0<=n)->∀k,k<s.length->O2 p0.perm c.shape ((p.length+k:Nat):Int) (s.getD k 0))
 |[],p,d,f=>by
  rw[Zj];simp only[d,Za,aj];exact⟨_,rfl,λ_ _ k g=>by cases g⟩
 |n::s,p,d,f=>by
  rw[Zj];obtain⟨r,m,q⟩:=NN c p0 (p.length:Int) c.shape p0.perm [] [] (-1) rfl rfl hl rfl l;obtain⟨o,e,t⟩:=NJ c p0 hl l s (p++[n]) (by rw[d];simp) (by rw[<-Qv];exact f);have j:Q8 (c,p0,(p.length:Int),-1,0)=some r:=m;simp only[d,Q4,ak,j,Qc,Qy,lk f,e];by_cases hn:r=n
  .rw[af (λh=>h hn)];refine⟨o,rfl,λh h0 k g=>?_⟩;cases k with
   |zero=>rw[<-hn];exact(q h0).2
   |succ k=>
    have:=t h h0 k (by simpa using g);simp only[jV,zG,jL]at this;rw[show p.length+(k+1)=p.length+(0+1)+k by omega];exact this
  .rw[ai hn];exact⟨_,rfl,λh=>by cases h⟩
theorem Fg:∀{l s:fj} {k:Nat},k<l.length->l.length=s.length->(l.getD k 0,s.getD k 0)∈l.zip s
 |x::l,n::s,0,_,_=>by simp
 |x::l,n::s,k+1,h,c=>by
  simp only[cT,List.zip_cons_cons];exact jG _ (Fg (by simpa using h) (by simpa using c))
 |[],_,_,h,_=>by cases h
 |_::_,[],_,_,h=>by cases h
theorem P4(p0 c:Qb)(j:idx p0.kids 0=some c)(l:Sm c.shape.length)(m:Sm p0.shape.length):∃b,Xa p0=some b/\(b=true->p0.perm.length=c.shape.length/\
  ((∀n∈c.shape,0<=n)->∀k,k<c.shape.length->0<=p0.perm.getD k 0/\p0.perm.getD k 0<(p0.shape.length:Int)/\p0.shape.getD (p0.perm.getD k 0).toNat 0<=c.shape.getD k 0)):=by
 simp only[Xa,j,Qc];by_cases hl:p0.perm.length=c.shape.length
 .rw[af y8];obtain⟨o,e,p⟩:=Nq c p0 c.shape p0.perm [] [] rfl rfl hl.symm rfl l;obtain⟨o2,q,d⟩:=NJ c p0 hl.symm l p0.shape [] rfl m;have e':Zi (c,p0,0)=some o:=e;have f:Zj (p0,c,0)=some o2:=q;rw[e',Qc];cases o with
  |inl _=>exact⟨_,rfl,λh=>by cases h⟩
  |inr _=>
   simp only[f,Qc];cases o2 with
   |inl _=>exact⟨_,rfl,λh=>by cases h⟩
   |inr _=>
    refine⟨_,rfl,λ_=>⟨hl,λh0 k j=>?_⟩⟩
    have hm:p0.perm.getD k 0∈p0.perm:=by
     rw[jB,jC y8];exact zC _
    have g:=p rfl _ hm;refine⟨g.1,g.2,?_⟩;have z:=d rfl h0 (p0.perm.getD k 0).toNat y8;exact z _ (Fg y8 hl) (by simp only[jL,zY];omega)
 .rw[ai y8];exact⟨_,rfl,λh=>by cases h⟩
def pick(l p:fj):fj:=p.map λj=>l.getD j.toNat 0
theorem Io{l:fj}{j:Int}(h:0<=j)(c:j<(l.length:Int)):idx l j=some (l.getD j.toNat 0):=by
 have:j.toNat<l.length:=by omega
 simp[idx,h,this]
def iA:fj->fj->Int
 |_::s,x::i=>x*fw s+iA s i
 |_,_=>0
def gF:fj->fj
 |[]=>[]
 |_::s=>fw s::gF s
def iT:fj->Int->fj
 |[],_=>[]
 |_::s,o=>o/fw s::iT s (o%fw s)
theorem kJ:∀s:fj,(gF s).length=s.length
 |[]=>rfl
 |_::s=>by simp[gF,kJ s]
theorem kD:∀(s:fj) (o:Int),(iT s o).length=s.length
 |[],_=>rfl
 |_::s,o=>by simp[iT,kD s]
theorem qI:∀{s i:fj},iB s i=true->∀n∈s,1<=n
 |n::s,x::i,h,m,hm=>by
  simp only[iB,jE,zD]at h;rcases aq.1 hm with rfl|hm
  .omega
  .exact qI h.2 m hm
 |[],_,_,m,hm=>by cases hm
 |_::_,[],h,_,_=>by cases h
theorem gG:∀{s i:fj},iB s i=true->0<=iA s i/\iA s i<fw s
 |[],[],_=>by simp[iA,fw]
 |n::s,x::i,h=>by
  simp only[iB,jE,zD]at h;obtain⟨d,e⟩:=gG h.2;have f:=fM (qI h.2);rw[iA,fV];have g:0<=x*fw s:=cr h.1.1 y8;have c:(x+1)*fw s<=n*fw s:=aI y8 y8;rw[cH,cq]at c;omega
 |[],_::_,h=>by cases h
 |_::_,[],h=>by cases h
theorem Bd{a b:fj}(c:∀n∈a,1<=n)(d:∀n∈b,1<=n):fw b<=fw (a++b):=by
 rw[jv];have e:=fM c;have f:=fM d;have:=aI e (show 0<=fw b by omega);omega
theorem Iq(s v2:fj)(g:v2.length=s.length)(v:s.length<=1000)(hpos:∀n∈s,1<=n)(z:fw s<=65536):∀(m:Nat) (a b:fj),a.length=m->s=a++b->
  Ye (s,v2,List.replicate a.length 0++gF b,fw b,(b.length:Int))=some (gF s)
 |0,a,b,j,e=>by
  obtain rfl:=aw j;rw[Ye]
  have:¬((b.length:Int)<(s.length:Int)):=by rw[e];simp
  simp only[this,aj];rw[e];rfl
 |m+1,a,b,j,e=>by
  rcases de a with rfl|⟨c,n,rfl⟩
  .simp at j
  .simp only[df]at j e |-;have r:c.length=m:=by simpa using j
   rw[Ye];have hl:s.length=c.length+1+b.length:=by rw[e];simp;omega
   have A:((b.length:Int)<(s.length:Int)):=by omega
   have w:W (W ((s.length:Int) - 1) - (b.length:Int))=(c.length:Int):=by
    rw[show W ((s.length:Int) - 1)=(s.length:Int) - 1 from lg y8 y8,lg y8 y8];omega
   have e':s=c++(n::b):=by rw[e];simp
   have B:(List.replicate (c++[n]).length (0:Int)++gF b).length=v2.length:=by simp[kJ,g,hl]
   have C:List.replicate (c++[n]).length (0:Int)++gF b=List.replicate c.length 0++0::gF b:=by
    rw[jV,cg,dq,aB];rfl
   have u:c.length<(List.replicate (c++[n]).length (0:Int)++gF b).length:=by simp;omega
   have l:(List.replicate (c++[n]).length (0:Int)++gF b).set c.length (fw b)=List.replicate c.length 0++gF (n::b):=by
    rw[C];have:=qH (p:=List.replicate c.length (0:Int)) (s:=gF b) (x:=0) (y:=fw b);simp only[zJ]at this;rw[this,<-Qv];rfl
   have q:idx s (c.length:Int)=some n:=by rw[e'];exact Qy
   have d:∀k∈n::b,1<=k:=λk t=>hpos k (by rw[e'];exact dg _ t)
   have f:∀k∈c,1<=k:=λk t=>hpos k (by rw[e'];exact y5 _ t)
   have D:fw (n::b)<=65536:=by
    have:=Bd f d;rw[<-e']at this;omega
   have E:=fM d;have F:W (fw b*n)=fw (n::b):=by rw[fV,bj,lg (by rw[<-fV];omega) (by rw[<-fV];omega)]
   have G:W ((b.length:Int)+1)=((n::b).length:Int):=by rw[lg y8 y8];simp
   have H:=Iq s v2 g v hpos z m c (n::b) r e';simp only[A,ak,w,fI B,Qc,oP u,jo u,l,q,F,G];exact H
theorem fE{s:fj}(h:fH s=0):s.length<=16/\fw s<=65536/\∀n∈s,0<=n/\n<=65536:=by
 unfold fH at h;by_cases hn:lI s=true
 .rw[ai hn]at h;cases h
 .rw[af hn]at h;by_cases e:s.length>16\/lH s=true\/fw s>65536
  .rw[ai e]at h;cases h
  .have c:lI s=false:=by simpa using hn
   have d:lH s=false:=by
    cases d:lH s with
    |false=>rfl
    |true=>exact absurd (Or.inr (Or.inl d)) e
   refine⟨by omega,by omega,λn hm=>⟨AU c n hm,zp d n hm⟩⟩
theorem ke(s:fj)(d:Sm s.length):Xf s=some (iS s):=by
 simp only[Xf,nG s d,Qc,iS,um s d];by_cases h:fH s=0
 .obtain⟨e,f,g⟩:=fE h
  have hn:lI s=false:=by
   cases hn:lI s with
   |false=>rfl
   |true=>unfold fH at h;rw[ai hn]at h;cases h
  have c:lH s=false:=by
   cases c:lH s with
   |false=>rfl
   |true=>unfold fH at h;rw[af (by simp[hn]),ai (Or.inr (Or.inl c))]at h;cases h
  simp[h,sK,hn,c,show¬fw s>65536 by omega]
 .simp[h]
theorem oK{s:fj}(hc:fH s=0)(hpos:∀n∈s,1<=n):YK s=some (gF s):=by
 obtain⟨d,c,f⟩:=fE hc;have g:=fM hpos
 have hm:jb 8 (s.length:Int) (0:Int)=some (List.replicate s.length 0):=by
  have:((s.length:Int)*8<=(gO:Int)):=by
   have:(1000:Nat)*8<=gO:=by decide +kernel
   omega
  simp[jb,this];omega
 have e:=Iq s (List.replicate s.length 0) yA y8 hpos c s.length s [] rfl yA;simp only[gF,jU,ib,jL,jJ]at e;simp only[YK,nG s (jf (show s.length<=1000 by omega)),Qc,hc,hm,ke s (jf (show s.length<=1000 by omega)),iS,ak,ne_eq,not_true,aj,show¬fw s=0 by omega,e];rw[fI (by simp[kJ])];rfl
theorem dm{o P n:Int}(c:0<=o)(d:0<=P)(hn:0<=n):(o% (P*n))/n=(o/n)%P:=by
 obtain⟨o',rfl⟩:=zB c;obtain⟨e,rfl⟩:=zB d;obtain⟨n',rfl⟩:=zB hn;have:=Nat.mod_mul_left_div_self o' n' e
 exact_mod_cast this
theorem mm{o P n:Int}:(o% (P*n))%n=o%n:=Int.emod_emod_of_dvd o (Int.dvd_mul_left P n)
theorem wj:∀(a:fj) (n o:Int),(∀m∈a,1<=m)->1<=n->0<=o->o<fw (a++[n])->iT (a++[n]) o=iT a (o/n)++[o%n]
 |[],n,o,_,h,e,c=>by
  have:fw ([]++[n])=n:=by simp[fw]
  rw[this]at c;simp only[jQ,iT,ib,Int.ediv_one];rw[bJ e c]
 |m::a,n,o,g,h,e,c=>by
  have l:=fM (λk f=>g k (jG _ f));have d:fw (a++[n])=fw a*n:=by rw[jv,fV,ib,bO]
  have hpos:0<fw a*n:=Int.mul_pos y8 y8;have j:=wj a n (o%fw (a++[n])) (λk f=>g k (jG _ f)) h (bz _ (by rw[d];omega)) (aX _ (by rw[d];exact hpos));rw[d]at j;simp only[aW,iT];rw[d,j,dm e y8 y8,mm,bj (fw a) n,<-Int.ediv_ediv_of_nonneg (by omega:0<=n)]
theorem qq:∀{s:fj} {o:Int},(∀n∈s,1<=n)->0<=o->o<fw s->iB s (iT s o)=true
 |[],_,_,_,_=>rfl
 |n::s,o,h,e,d=>by
  have f:=fM (λk c=>h k (jG _ c));rw[fV]at d;simp only[iT,iB,jE,zD];exact⟨⟨dp e y8,Int.ediv_lt_of_lt_mul y8 d⟩,qq (λk c=>h k (jG _ c)) (bz _ y8) (aX _ y8)⟩
theorem L1{a b:Int}(c:0<=a)(d:1<=b)(h:a<=9223372036854775807):A5 a b=some (a/b):=by
 have e:a/b<=a:=Int.ediv_le_self _ c;have f:0<=a/b:=dp c y8;rw[A5,af y8,dK c,lg y8 y8]
theorem oY{a b:Int}(c:0<=a)(d:1<=b):mX a b=some (a%b):=by
 rw[mX,af y8,cQ c]
theorem qE{n:Nat}(h:n<=1000):jb 8 (n:Int) (0:Int)=some (List.replicate n 0):=by
 have:((n:Int)*8<=(gO:Int)):=by
  have:(1000:Nat)*8<=gO:=by decide +kernel
  omega
 simp[jb,this];omega
mutual
def rv:Qb->Nat
 |⟨_,_,_,_,_,_,_,kids⟩=>1+qj kids
def qj:List Qb->Nat
 |[]=>0
 |k::ks=>rv k+qj ks
end
mutual
def GO:Qb->Prop
 |⟨_,shape,_,starts,_,_,perm,kids⟩=>shape.length<=40/\starts.length<=40/\perm.length<=40/\kids.length<=600/\rl kids
def rl:List Qb->Prop
 |[]=>True
 |k::ks=>GO k/\rl ks
end
theorem so:∀c:Qb,1<=rv c
 |⟨_,_,_,_,_,_,_,kids⟩=>by rw[rv];omega
theorem CE:∀l:List Qb,l.length<=qj l
 |[]=>zP _
 |k::ks=>by have:=CE ks;have:=so k;rw[qj];simp only[zG];omega
mutual
theorem FX:∀(c:Qb) (n:Int),0<=n->n<=600->∃r,Jx (c,n)=some r/\-1<=r/\r<=n - 1/\(0<=r->r+rv c<=n/\GO c)
 |⟨k,d,b,st,g,j,f,ks⟩,n,l,t=>by
  rw[Jx];simp only[];have w:W (n - 1)=n - 1:=lg y8 y8;obtain⟨r,e,m,u,q⟩:=yL ks [] (n - 1) k d b st g j f y8 y9;simp only[jQ,jL,jJ]at e;by_cases c1:(d.length:Int)>40
  .exact⟨-1,by simp only[c1,ak,aj,Qc,decide_true,y3,j6],by omega,by omega,by omega⟩
  .by_cases c2:(st.length:Int)>40
   .exact⟨-1,by simp only[c1,c2,ak,aj,Qc,decide_true,y3,j6],by omega,by omega,by omega⟩
   .by_cases v:(f.length:Int)>40
    .exact⟨-1,by simp only[c1,c2,v,ak,aj,Qc,decide_true,y3,j6],by omega,by omega,by omega⟩
    .refine⟨r,by simp only[c1,c2,v,w,e,ak,aj,Qc,decide_true,y3,j6],m,u,λh=>?_⟩;have:=q h;have hl:=CE ks;rw[rv,GO];exact⟨by omega,by omega,by omega,by omega,by omega,this.2⟩
theorem yL:∀(s p:List Qb) (n:Int) (k:Int) (d:fj) (b:Int) (st:fj) (g j:Int) (f:fj),-1<=n->(p.length:Int)+n<=600->
  ∃r,Yh (⟨k,d,b,st,g,j,f,p++s⟩,n,(p.length:Int))=some r/\-1<=r/\r<=n/\(0<=r->r+qj s<=n/\rl s)
 |[],p,n,k,d,b,st,g,j,f,l,t=>by
  rw[Yh];simp only[Za,aj,Qc,j6];exact⟨n,rfl,l,by omega,λh=>⟨by rw[qj];omega,trivial⟩⟩
 |x::s,p,n,k,d,b,st,g,j,f,l,t=>by
  rw[Yh];simp only[Q4,ak,Qc];by_cases hn:n>=0
  .rw[decide_eq_true hn];obtain⟨r,e,m,u,q⟩:=FX x n hn y8;obtain⟨y,e',z,B,A⟩:=yL s (p++[x]) r k d b st g j f m y9;rw[<-Qv]at e';have w:W ((p.length:Int)+1)=((p++[x]).length:Int):=by rw[lg y8 y8];simp
   simp only[ak,Qy,Qc,e,w,e'];refine⟨y,rfl,z,by omega,λh=>?_⟩;have a:=A h;have b:=q y8;rw[qj,rl];exact⟨by omega,b.2,a.2⟩
  .rw[zZ hn];simp only[j6,aj];exact⟨n,rfl,l,by omega,λh=>by omega⟩
end
theorem Oi(c:Qb)(n:Int)(d:0<=n)(f:n<=600):∃b,PF (c,n)=some b/\(b=true->GO c/\(rv c:Int)<=n):=by
 obtain⟨r,e,_,_,h⟩:=FX c n d f;refine⟨decide (r>=0),by simp only[PF,e,Qc],λg=>?_⟩;have h0:0<=r:=by simpa using g
 have:=h h0;exact⟨this.2,by omega⟩
mutual
def conv:Qb->Qj
 |⟨k,c,b,st,d,e,f,ks⟩=>⟨k,c,b,st,d,e,f,uu ks⟩
def uu:List Qb->List Qj
 |[]=>[]
 |k::ks=>conv k::uu ks
end
mutual
theorem Fk:∀(c:Qb),GO c->Jv c=some (conv c)
 |⟨k,d,b,st,f,g,j,ks⟩,h=>by
  rw[GO]at h;rw[Jv];have e:=yH ks [] [] k d b st f g j h.2.2.2.2 rfl y9;simp only[jQ,jL,jJ]at e;simp only[e,Qc,conv]
theorem yH:∀(s p:List Qb) (q:List Qj) (k:Int) (d:fj) (b:Int) (st:fj) (f g:Int) (j:fj),rl s->q.length=p.length->p.length+s.length<=600->
  Yg (⟨k,d,b,st,f,g,j,p++s⟩,q,(p.length:Int))=some (q++uu s)
 |[],p,q,k,d,b,st,f,g,j,l,m,n=>by
  rw[Yg];simp only[Za,aj,uu];rw[jU]
 |x::s,p,q,k,d,b,st,f,g,j,l,m,n=>by
  rw[Yg];rw[rl]at l;have e:=Fk x l.1;simp only[zG]at n;have e':=yH s (p++[x]) (q++[conv x]) k d b st f g j l.2 (by simp[m]) y9;rw[<-Qv]at e';have w:W ((p.length:Int)+1)=((p++[x]).length:Int):=by rw[lg y8 y8];simp
  have r:app 128 q [conv x]=some (q++[conv x]):=Ic (by
   have:602*128<=gO:=by decide +kernel
   simp only[zG,jL];omega)
  simp only[Q4,ak,Qy,Qc,e,r,w,e',uu,aB,aM]
end
theorem sU(a b:fj)(c:Sm b.length):XF (a,b)=some (decide (a=b)):=by
 by_cases h:a.length=b.length
 .exact Iv a b (by rw[h];exact c)
 .have d:((a.length:Int)≠(b.length:Int)):=by omega
  have f:a≠b:=λe=>h (by rw[e])
  simp only[XF];rw[ai d,zZ f]
theorem sb{c:Type}{l:List c}{k:c}{r:List c}(h:l=k::r):idx l 0=some k:=by subst h;rfl
theorem MC{c:Type}{l:List c}{k k2:c}{r:List c}(h:l=k::k2::r):idx l 1=some k2:=by subst h;rfl
theorem BS(p0 k:Qb)(r:List Qb)(f:p0.kids=k::r)(g:Sm p0.shape.length):∃b,JK p0=some b/\(b=true->k.shape=p0.shape/\0<=p0.axis/\p0.axis<(p0.shape.length:Int)):=by
 simp only[JK,sb f,Qc,sU _ _ g];by_cases c:k.shape=p0.shape
 .by_cases d:p0.axis>=0
  .by_cases e:p0.axis<(p0.shape.length:Int)
   .exact⟨true,by simp[c,d,e],λ_=>⟨c,d,e⟩⟩
   .exact⟨false,by simp[c,d,e],λh=>by cases h⟩
  .exact⟨false,by simp[c,d],λh=>by cases h⟩
 .exact⟨false,by simp[c],λh=>by cases h⟩
def KA(c:Int)(s a b:fj)(k:Nat):Prop:=((k:Int)=c->s.getD k 0=W (a.getD k 0+b.getD k 0))/\((k:Int)≠c->a.getD k 0=b.getD k 0/\a.getD k 0=s.getD k 0)
theorem Aw{p s:fj}{x:Int}:(p++x::s).getD p.length 0=x:=by simp
theorem FH(d p0 v2:Qb):∀(a b s p q u:fj),d.shape=p++a->v2.shape=q++b->p0.shape=u++s->a.length=b.length->a.length=s.length->p.length=q.length->p.length=u.length->Sm (p++a).length->
  ∃o,Z7 (d,p0,v2,(p.length:Int))=some o/\(o=.inr ()->∀k,p.length<=k->k<d.shape.length->KA p0.axis p0.shape d.shape v2.shape k)
 |[],b,s,p,q,u,g,j,l,_,_,_,_,r=>by
  rw[Z7];simp only[g,Za,aj];exact⟨_,rfl,λ_ k D t=>by simp at t;omega⟩
 |x::a,y::b,z::s,p,q,u,g,j,l,D,t,v,A,r=>by
  rw[Z7];obtain⟨o,e,H⟩:=FH d p0 v2 a b s (p++[x]) (q++[y]) (u++[z]) (by rw[g];simp) (by rw[j];simp) (by rw[l];simp) (by simpa using D) (by simpa using t) (by simp[v]) (by simp[A]) (by rw[<-Qv];exact r);have I:idx d.shape (p.length:Int)=some x:=by rw[g];exact Qy
  have J:idx v2.shape (p.length:Int)=some y:=by rw[j,v];exact Qy
  have K:idx p0.shape (p.length:Int)=some z:=by rw[l,A];exact Qy
  have E:d.shape.getD p.length 0=x:=by rw[g];exact Aw
  have F:v2.shape.getD p.length 0=y:=by rw[j,v];exact Aw
  have G:p0.shape.getD p.length 0=z:=by rw[l,A];exact Aw
  have L:((p.length:Int)<(d.shape.length:Int)):=by rw[g];exact Q4
  have w:W ((p.length:Int)+1)=((p++[x]).length:Int):=lk r
  have fin:∀c:KA p0.axis p0.shape d.shape v2.shape p.length,o=.inr ()->∀k,p.length<=k->k<d.shape.length->KA p0.axis p0.shape d.shape v2.shape k:=λc h k M B=>by
   by_cases C:k=p.length
   .rw[C];exact c
   .exact H h k y9 B
  simp only[L,ak,I,J,K,Qc,w,e];by_cases m:(p.length:Int)=p0.axis
  .simp only[m,ak,Qc,ne_eq,not_true,aj];by_cases f:z=W (x+y)
   .refine⟨o,by simp[f],fin ⟨λ_=>by rw[E,F,G];exact f,λh=>absurd m h⟩⟩
   .exact⟨.inl (),by simp[f],λh=>by cases h⟩
  .simp only[m,aj,Qc,ne_eq,not_false_eq_true,ak,j6];by_cases n:x=y
   .by_cases f:x=z
    .refine⟨o,by simp[<-n,<-f],fin ⟨λh=>absurd h m,λ_=>by rw[E,F,G];exact⟨n,f⟩⟩⟩
    .exact⟨.inl (),by simp[<-n,f],λh=>by cases h⟩
   .exact⟨.inl (),by simp[n],λh=>by cases h⟩
 |_::_,[],_,_,_,_,_,_,_,h,_,_,_,_=>by cases h
 |_::_,_::_,[],_,_,_,_,_,_,_,h,_,_,_=>by cases h
theorem Gx(p0 c v2:Qb)(r:List Qb)(g:p0.kids=c::v2::r)(p:Sm c.shape.length):∃b,J3 p0=some b/\(b=true->c.shape.length=v2.shape.length/\c.shape.length=p0.shape.length/\
  0<=p0.axis/\p0.axis<(c.shape.length:Int)/\∀k,k<c.shape.length->KA p0.axis p0.shape c.shape v2.shape k):=by
 simp only[J3,sb g,MC g,Qc];by_cases j:c.shape.length=v2.shape.length
 .by_cases d:c.shape.length=p0.shape.length
  .by_cases l:p0.axis<0
   .exact⟨false,by simp[j,d,<-d,l],λh=>by cases h⟩
   .by_cases n:p0.axis>=(c.shape.length:Int)
    .refine⟨false,?_,λh=>by cases h⟩;have c1:(c.shape.length:Int)=(v2.shape.length:Int):=by omega
     have c2:((c.shape.length:Int) !=(p0.shape.length:Int))=false:=by simp[d]
     simp only[ne_eq,c1,not_true,aj,Qc,j6,zZ l];rw[<-c1];simp only[c2,Qc,j6,aj,decide_eq_true n,ak]
    .obtain⟨o,e,q⟩:=FH c p0 v2 c.shape v2.shape p0.shape [] [] [] rfl rfl rfl j d rfl rfl p;have e':Z7 (c,p0,v2,0)=some o:=e;have c1:¬((c.shape.length:Int)≠(v2.shape.length:Int)):=by omega
     have c2:((c.shape.length:Int) !=(p0.shape.length:Int))=false:=by simp[d]
     have m:∀f:Unit⊕ Unit->Option Bool,f o=(if o.isRight then f (.inr ())else f (.inl ())):=λf=>by cases o<;>rfl
     simp only[c1,aj,c2,Qc,j6,zZ l,zZ n,e'];cases o with
     |inl _=>exact⟨_,rfl,λh=>by cases h⟩
     |inr _=>exact⟨_,rfl,λ_=>⟨j,d,by omega,by omega,λk g=>q rfl k (zP _) g⟩⟩
  .refine⟨false,?_,λh=>by cases h⟩;have c1:¬((c.shape.length:Int)≠(v2.shape.length:Int)):=by omega
   have c2:((c.shape.length:Int) !=(p0.shape.length:Int))=true:=by simp;omega
   simp only[c1,aj,Qc,c2,ak]
 .refine⟨false,?_,λh=>by cases h⟩;have c1:((c.shape.length:Int)≠(v2.shape.length:Int)):=by omega
  simp only[ai c1,Qc,ak]
theorem vw{c:Type}{p:Prop}[Decidable p]{a b:c}:(if p then some a else some b)=some (if p then a else b):=by split <;>rfl
structure CF (c:Qb):Prop where
 kind:1<=c.kind/\c.kind<=7
 kids:(c.kids.length:Int)=if c.kind=7 then 2 else if c.kind=1 then 0 else 1
 chk:fH c.shape=0
 win:c.kind=2->c.starts.length=c.shape.length/\(∀x∈c.starts,-65536<=x/\x<=65536)/\∀k r,c.kids=k::r->k.shape.length=c.shape.length
 rev:c.kind=3\/c.kind=4->∀k r,c.kids=k::r->k.shape=c.shape/\0<=c.axis/\c.axis<(c.shape.length:Int)
 rot:c.kind=4->0<=c.amount/\(c.amount=0\/c.amount<c.shape.getD c.axis.toNat 0)
 tra:c.kind=5->∀k r,c.kids=k::r->c.perm.length=k.shape.length/\
  ((∀n∈k.shape,0<=n)->∀j,j<k.shape.length->0<=c.perm.getD j 0/\c.perm.getD j 0<(c.shape.length:Int)/\c.shape.getD (c.perm.getD j 0).toNat 0<=k.shape.getD j 0)
 tr2:c.kind=5->Xa c=some true
 cat:c.kind=7->∀k k2 r,c.kids=k::k2::r->k.shape.length=k2.shape.length/\k.shape.length=c.shape.length/\0<=c.axis/\c.axis<(k.shape.length:Int)/\∀j,j<k.shape.length->KA c.axis c.shape k.shape k2.shape j
theorem Da(c:Qb):∀(s p:fj),c.starts=p++s->Sm (p++s).length->∃o,YI (c,(p.length:Int))=some o/\(o=.inr ()->∀x∈s,-65536<=x/\x<=65536)
 |[],p,d,f=>by
  rw[YI];simp only[d,Za,aj];exact⟨_,rfl,λ_ x h=>by cases h⟩
 |x::s,p,d,f=>by
  rw[YI];obtain⟨o,e,l⟩:=Da c s (p++[x]) (by rw[d];simp) (by rw[<-Qv];exact f);simp only[d,Q4,ak,Qy,Qc,lk f,e];by_cases g:x< -65536
  .exact⟨.inl (),by simp[g,Qc],λh=>by cases h⟩
  .by_cases k:x>65536
   .exact⟨.inl (),by simp[g,k,Qc],λh=>by cases h⟩
   .refine⟨o,by simp[g,k,Qc],λh y j=>?_⟩;rcases aq.1 j with rfl|j
    .omega
    .exact l h y j
theorem sN{c:Qb}(h:(c.kids.length:Int)=1):∃k,c.kids=[k]:=by
 match d:c.kids,h with
 |[k],_=>exact⟨k,rfl⟩
 |[],h=>simp at h
 |_::_::_,h=>simp at h;omega
theorem IH{c:Qb}(h:(c.kids.length:Int)=2):∃k k2,c.kids=[k,k2]:=by
 match d:c.kids,h with
 |[k,k2],_=>exact⟨k,k2,rfl⟩
 |[],h=>simp at h
 |[_],h=>simp at h
 |_::_::_::_,h=>simp at h;omega
theorem ND{B:Bool}{R:Option Bool}{F:Prop}(h:B=false->∃b,R=some b/\(b=true->F)):∃b,(if B=true then some false else R)=some b/\(b=true->F):=by
 cases B with
 |true=>exact⟨false,rfl,λh=>by cases h⟩
 |false=>exact h rfl
theorem MQ(c:Qb)(bs:List fj)(D:c.shape.length<=40)(E:c.starts.length<=40)(s:∀k∈c.kids,k.shape.length<=40):
  ∃b,Jy (c,bs)=some b/\(b=true->CF c):=by
 have l:Sm c.shape.length:=jf (show c.shape.length<=1000 by omega);simp only[Jy,vw,Qc,qa _ l];refine ND λm=>?_
 have k1:¬c.kind<1:=λh=>by simp[h]at m
 have F:¬c.kind>7:=λh=>by simp[h]at m
 have kl:(c.kids.length:Int)=if c.kind=7 then 2 else if c.kind=1 then 0 else 1:=Decidable.byContradiction λh=>by simp[h]at m
 have kc:fH c.shape=0:=Decidable.byContradiction λh=>by simp[h]at m
 clear m;refine ND λz=>?_
 clear z;by_cases c1:c.kind=1
 .rw[ai c1];have hn:CF c:=⟨by omega,kl,kc,by omega,by omega,by omega,by omega,by omega,by omega⟩;by_cases g:0<=c.buffer/\c.buffer<(bs.length:Int)
  .have j:(if c.buffer>=0 then decide (c.buffer<(bs.length:Int))else false)=true:=by simp[g]
   rw[ai j];have hi:c.buffer.toNat<bs.length:=by omega
   have:idx bs c.buffer=some bs[c.buffer.toNat]:=by simp[idx,g.1,hi]
   simp only[this,Qc,sU _ _ l];exact⟨_,rfl,λ_=>hn⟩
  .have j:¬(if c.buffer>=0 then decide (c.buffer<(bs.length:Int))else false)=true:=by
    by_cases h0:c.buffer>=0
    .simp only[h0,ak,zD];omega
    .simp[h0]
   rw[af j];exact⟨_,rfl,λh=>by cases h⟩
 rw[af c1];by_cases c2:c.kind=2
 .rw[ai c2];obtain⟨k,f⟩:=sN (c:=c) (by rw[kl,af y8,af c1]);obtain⟨o,e,A⟩:=Da c c.starts [] rfl (jf (show([]++c.starts).length<=1000 by simp;omega));have e':YI (c,0)=some o:=e;rw[e',Qc];cases o with
  |inl _=>exact⟨_,rfl,λh=>by cases h⟩
  |inr _=>
   simp only[sb f,Qc];by_cases hl:(c.starts.length:Int)=(c.shape.length:Int)
   .rw[ai hl];refine⟨_,rfl,λh=>⟨by omega,kl,kc,λ_=>⟨by omega,A rfl,λn r d=>?_⟩,by omega,by omega,by omega,by omega,by omega⟩⟩;rw[f]at d;cases d;simp at h;omega
   .rw[af hl];exact⟨_,rfl,λh=>by cases h⟩
 rw[af c2];by_cases t:c.kind=3
 .rw[ai t];obtain⟨k,f⟩:=sN (c:=c) (by rw[kl,af y8,af c1]);obtain⟨b,e,g⟩:=BS c k [] f l;rw[e,Qc];exact⟨_,rfl,λh=>⟨by omega,kl,kc,by omega,λ_ n r d=>by rw[f]at d;cases d;exact g h,by omega,by omega,by omega,by omega⟩⟩
 rw[af t];by_cases u:c.kind=4
 .rw[ai u];obtain⟨k,f⟩:=sN (c:=c) (by rw[kl,af y8,af c1]);obtain⟨b,e,g⟩:=BS c k [] f l;rw[e,Qc];cases b with
  |false=>exact⟨false,by simp,λh=>by cases h⟩
  |true=>
   obtain⟨B,v,w⟩:=g rfl;have x:c.kind=3\/c.kind=4->∀k r,c.kids=k::r->k.shape=c.shape/\0<=c.axis/\c.axis<(c.shape.length:Int):=λ_ n r d=>by rw[f]at d;cases d;exact⟨B,v,w⟩
   by_cases hm:c.amount>=0
   .simp only[ak,decide_eq_true hm];by_cases h0:c.amount=0
    .rw[ai h0];exact⟨_,rfl,λh=>⟨by omega,kl,kc,by omega,x,λ_=>⟨hm,Or.inl h0⟩,by omega,by omega,by omega⟩⟩
    .rw[af h0];simp only[Io v w,Qc];exact⟨_,rfl,λh=>⟨by omega,kl,kc,by omega,x,λ_=>⟨hm,Or.inr (by simpa using h)⟩,by omega,by omega,by omega⟩⟩
   .simp only[ak,zZ hm,j6,aj];exact⟨_,rfl,λh=>by cases h⟩
 rw[af u];by_cases y:c.kind=5
 .rw[ai y];obtain⟨k,f⟩:=sN (c:=c) (by rw[kl,af y8,af c1]);have p:=s k (by rw[f];simp);obtain⟨b,e,g⟩:=P4 c k (sb f) (jf (show k.shape.length<=1000 by omega)) l;rw[e,Qc];exact⟨_,rfl,λh=>⟨by omega,kl,kc,by omega,by omega,by omega,λ_ n r d=>by rw[f]at d;cases d;exact g h,λ_=>by rw[e,h],by omega⟩⟩
 rw[af y];by_cases q:c.kind=7
 .rw[ai q];obtain⟨k,k2,f⟩:=IH (c:=c) (by rw[kl,ai q]);have p:=s k (by rw[f];simp);obtain⟨b,e,g⟩:=Gx c k k2 [] f (jf (show k.shape.length<=1000 by omega));rw[e,Qc];exact⟨_,rfl,λh=>⟨by omega,kl,kc,by omega,by omega,by omega,by omega,by omega,λ_ n C r d=>by rw[f]at d;cases d;exact g h⟩⟩
 .rw[af q];exact⟨_,rfl,λ_=>⟨by omega,kl,kc,by omega,by omega,by omega,by omega,by omega,by omega⟩⟩
theorem Bk:∀{l:List Qb},rl l->∀k∈l,GO k
 |x::l,h,k,c=>by
  rw[rl]at h;rcases aq.1 c with rfl|c
  .exact h.1
  .exact Bk h.2 k c
 |[],_,_,c=>by cases c
theorem F1{c:Qb}(h:GO c):c.shape.length<=40/\c.starts.length<=40/\c.perm.length<=40/\c.kids.length<=600/\rl c.kids:=by
 cases c;rw[GO]at h;exact h
theorem Ed{c:Type}{p s:List c}{x:c}(h:p.length+(x::s).length<=600):W ((p.length:Int)+1)=((p++[x]).length:Int):=by
 simp at h;rw[lg y8 y8];simp
def NW(bs:List fj)(c:Qb):Prop:=c.kind=1->idx bs c.buffer=some c.shape
theorem Ik(c:Qb)(bs:List fj)(f:Sm c.shape.length)(h:Jy (c,bs)=some true):NW bs c:=by
 intro c1;simp only[Jy,vw,Qc,qa _ f]at h
 have g:∀{B:Bool} {R:Option Bool},(if B=true then some false else R)=some true->R=some true:=λ{B} {R} h=>by
  cases B with
  |true=>cases h
  |false=>exact h
 replace h:=g (g h);rw[ai c1]at h;by_cases d:0<=c.buffer/\c.buffer<(bs.length:Int)
 .have hi:c.buffer.toNat<bs.length:=by omega
  have e:idx bs c.buffer=some bs[c.buffer.toNat]:=by simp[idx,d.1,hi]
  simp only[show c.buffer>=0 from d.1,ak,decide_eq_true d.2,e,Qc,sU _ _ f,j9,zD]at h;rw[e,h]
 .have j:¬(if c.buffer>=0 then decide (c.buffer<(bs.length:Int))else false)=true:=by
   by_cases h0:c.buffer>=0
   .simp only[h0,ak,zD];omega
   .simp[h0]
  rw[af j]at h;cases h
mutual
def nL (bs:List fj):Qb->Prop
 |⟨k,c,b,st,d,e,f,ks⟩=>CF ⟨k,c,b,st,d,e,f,ks⟩/\NW bs ⟨k,c,b,st,d,e,f,ks⟩/\qp bs ks
def qp (bs:List fj):List Qb->Prop
 |[]=>True
 |k::ks=>nL bs k/\qp bs ks
end
theorem tT{bs:List (fj)}:∀{l:List Qb},qp bs l->∀k∈l,nL bs k
 |x::l,h,k,c=>by
  rw[qp]at h;rcases aq.1 c with rfl|c
  .exact h.1
  .exact tT h.2 k c
 |[],_,_,c=>by cases c
theorem pZ{bs:List (fj)}{c:Qb}(h:nL bs c):CF c/\NW bs c/\∀k∈c.kids,nL bs k:=by
 cases c;rw[nL]at h;exact⟨h.1,h.2.1,tT h.2.2⟩
mutual
theorem Cn (bs:List fj):∀(c:Qb),GO c->∃b,X4 (c,bs)=some b/\(b=true->nL bs c)
 |⟨k,d,b,st,f,g,j,ks⟩,h=>by
  have l:=F1 h;rw[X4];obtain⟨v,e,q⟩:=MQ ⟨k,d,b,st,f,g,j,ks⟩ bs l.1 l.2.1 (λk w=>(F1 (Bk l.2.2.2.2 k w)).1);simp only[e,Qc];cases v with
  |false=>exact⟨false,rfl,λh=>by cases h⟩
  |true=>
   have m:=Ik _ bs (jf (show d.length<=1000 by have:=l.1;simp only at this;omega)) e;obtain⟨o,u,r⟩:=vL bs ks [] k d b st f g j l.2.2.2.2 (by have:=l.2.2.2.1;simpa using this);simp only[jQ,jL,jJ]at u;simp only[jO,aj,u,Qc];cases o with
   |inl _=>exact⟨false,rfl,λh=>by cases h⟩
   |inr _=>exact⟨true,rfl,λ_=>by rw[nL];exact⟨q rfl,m,r rfl⟩⟩
theorem vL (bs:List fj):∀(s p:List Qb) (k:Int) (d:fj) (b:Int) (st:fj) (f g:Int) (j:fj),rl s->p.length+s.length<=600->
  ∃o,ZW (⟨k,d,b,st,f,g,j,p++s⟩,bs,(p.length:Int))=some o/\(o=.inr ()->qp bs s)
 |[],p,k,d,b,st,f,g,j,n,t=>by
  rw[ZW];simp only[Za,aj];exact⟨_,rfl,λ_=>trivial⟩
 |x::s,p,k,d,b,st,f,g,j,n,t=>by
  rw[ZW];rw[rl]at n;obtain⟨v,e,q⟩:=Cn bs x n.1;obtain⟨o,e',r⟩:=vL bs s (p++[x]) k d b st f g j n.2 (by simp at t |-;omega);rw[<-Qv]at e';simp only[Q4,ak,Qy,Qc,e,Ed t,e'];cases v with
  |false=>exact⟨.inl (),rfl,λh=>by cases h⟩
  |true=>exact⟨o,rfl,λh=>by rw[qp];exact⟨q rfl,r h⟩⟩
end
mutual
theorem Cj:∀(c:Qb),GO c->∃d,X2 c=some d
 |⟨k,f,b,st,g,j,l,ks⟩,h=>by
  have q:=F1 h;rw[X2];obtain⟨o,r⟩:=wc ks [] 0 k f b st g j l q.2.2.2.2 (by have:=q.2.2.2.1;simpa using this);simp only[jQ,jL,jJ]at r;simp only[r,Qc];exact⟨_,rfl⟩
theorem wc:∀(s p:List Qb) (d k:Int) (f:fj) (b:Int) (st:fj) (g j:Int) (l:fj),rl s->p.length+s.length<=600->
  ∃o,ZU (⟨k,f,b,st,g,j,l,p++s⟩,d,(p.length:Int))=some o
 |[],p,d,k,f,b,st,g,j,l,m,n=>by
  rw[ZU];simp only[Za,aj];exact⟨_,rfl⟩
 |x::s,p,d,k,f,b,st,g,j,l,m,n=>by
  rw[ZU];rw[rl]at m;obtain⟨v,e⟩:=Cj x m.1;obtain⟨o,e'⟩:=wc s (p++[x]) (if d<v then v else d) k f b st g j l m.2 (by simp at n |-;omega);rw[<-Qv]at e';simp only[Q4,ak,Qy,Qc,e,Ed n,e'];exact⟨_,rfl⟩
end
def Fe:fj->Int
 |[]=>1
 |n::s=>(if n<1 then 1 else n)*Fe s
theorem Fq:∀s:fj,1<=Fe s
 |[]=>aC _
 |n::s=>by
  have c:=Fq s;have d:1<=(if n<1 then 1 else n):=by split <;>omega
  rw[Fe];have:=bg d c y8 y8;omega
theorem Bq(c:Int)(hm:0<=c/\c<=1000000):∀(s p:fj) (v:Int),p.length+s.length<=600->(∀n∈s,n<=65536)->1<=v->v<=100000000->∃o,Yn (p++s,c,v,(p.length:Int))=some o/\(o=.inr ()->s=[]\/v*Fe s<=100*c)
 |[],p,v,h,f,g,j=>by
  refine⟨.inr (),?_,λ_=>Or.inl rfl⟩;rw[Yn];simp only[Za,aj]
 |x::s,p,v,h,f,g,j=>by
  rw[Yn];have l:W (100*c)=100*c:=lg y8 y8;have r:=f x (jM ..);have d:1<=(if x<1 then 1 else x)/\(if x<1 then 1 else x)<=65536:=by split <;>omega
  have b1:=bg j d.2 y8 y8;have b2:=bg g d.1 y8 y8;have m:W (v*(if x<1 then 1 else x))=v*(if x<1 then 1 else x):=lg y8 y8;simp only[Q4,ak,Qy,Qc,Ed h,l,m];by_cases k:v*(if x<1 then 1 else x)>100*c
  .exact⟨_,ai k,λh=>by cases h⟩
  .obtain⟨o,e,q⟩:=Bq c hm s (p++[x]) (v*(if x<1 then 1 else x)) (by simp at h |-;omega) (λn hn=>f n (jG _ hn)) y8 y8;rw[<-Qv]at e;rw[af k];refine⟨o,e,λh=>Or.inr ?_⟩;rw[Fe,<-bF];rcases q h with rfl|h
   .rw[Fe,bO];omega
   .exact h
def s9(m:Int)(l:fj):Prop:=l.length<=6/\fH l=0/\fw l<=m/\(l=[]\/Fe l<=100*m)
theorem Lu(l:fj)(c:Int)(hm:0<=c/\c<=1000000)(h:l.length<=40):∃b,P5 (l,c)=some b/\(b=true->s9 c l):=by
 have g:Sm l.length:=jf (show l.length<=1000 by omega);simp only[P5,qa _ g,lZ _ g,Qc,vw];by_cases f:(l.length:Int)>6
 .exact⟨false,by simp[f],λh=>by cases h⟩
 by_cases d:fH l=0
 .have hc:iS l=fw l:=by rw[iS,ai d]
  by_cases j:iS l>c
  .exact⟨false,by simp[f,d,j],λh=>by cases h⟩
  .obtain⟨o,e,k⟩:=Bq c hm l [] 1 y9 (λn hn=>((fE d).2.2 n hn).2) y8 y8;have e':Yn (l,c,1,0)=some o:=e;simp only[f,d,j,e',aj,bne_self_eq_false,j6,y3,Qc];cases o with
   |inl _=>exact⟨_,rfl,λh=>by cases h⟩
   |inr _=>exact⟨_,rfl,λ_=>⟨by omega,d,by omega,by rcases k rfl with h|h;exact Or.inl h;exact Or.inr y8⟩⟩
 .exact⟨false,by simp[f,d],λh=>by cases h⟩
mutual
def nD (m:Int):Qb->Prop
 |⟨k,c,b,st,d,e,f,ks⟩=>s9 m c/\qJ m ks
def qJ (m:Int):List Qb->Prop
 |[]=>True
 |k::ks=>nD m k/\qJ m ks
end
theorem tS{m:Int}:∀{l:List Qb},qJ m l->∀k∈l,nD m k
 |x::l,h,k,c=>by
  rw[qJ]at h;rcases aq.1 c with rfl|c
  .exact h.1
  .exact tS h.2 k c
 |[],_,_,c=>by cases c
theorem lB{m:Int}{c:Qb}(h:nD m c):s9 m c.shape/\∀k∈c.kids,nD m k:=by
 cases c;rw[nD]at h;exact⟨h.1,tS h.2⟩
mutual
theorem De (m:Int) (hm:0<=m/\m<=1000000):∀(c:Qb),GO c->∃d,X3 (c,m)=some d/\(d=true->nD m c)
 |⟨k,f,b,st,g,j,l,ks⟩,h=>by
  have q:=F1 h;rw[X3];obtain⟨v,e,r⟩:=Lu f m hm q.1;obtain⟨o,w,t⟩:=vV m hm ks [] k f b st g j l q.2.2.2.2 (by have:=q.2.2.2.1;simpa using this);simp only[jQ,jL,jJ]at w;simp only[e,w,Qc];cases v
  .exact⟨_,rfl,λh=>by cases h⟩
  .cases o
   .exact⟨_,rfl,λh=>by cases h⟩
   .exact⟨_,rfl,λ_=>by rw[nD];exact⟨r rfl,t rfl⟩⟩
theorem vV (m:Int) (hm:0<=m/\m<=1000000):∀(s p:List Qb) (k:Int) (f:fj) (b:Int) (st:fj) (g j:Int) (l:fj),rl s->p.length+s.length<=600->
  ∃o,ZV (⟨k,f,b,st,g,j,l,p++s⟩,m,(p.length:Int))=some o/\(o=.inr ()->qJ m s)
 |[],p,k,f,b,st,g,j,l,n,u=>by
  rw[ZV];simp only[Za,aj];exact⟨_,rfl,λ_=>trivial⟩
 |x::s,p,k,f,b,st,g,j,l,n,u=>by
  rw[ZV];rw[rl]at n;obtain⟨v,e,r⟩:=De m hm x n.1;obtain⟨o,e',t⟩:=vV m hm s (p++[x]) k f b st g j l n.2 (by simp at u |-;omega);rw[<-Qv]at e';simp only[Q4,ak,Qy,Qc,e,Ed u,e'];cases v
  .exact⟨_,rfl,λh=>by cases h⟩
  .exact⟨o,rfl,λh=>by rw[qJ];exact⟨r rfl,t h⟩⟩
end
theorem KV(c:Qb)(bs:List fj)(m:Int)(hm:0<=m/\m<=1000000):∃b,PZ (c,bs,m)=some b/\(b=true->GO c/\nL bs c/\nD m c/\(rv c:Int)<=60/\bs.length<=20):=by
 simp only[PZ];have g:(⟨c.kind,c.shape,c.buffer,c.starts,c.axis,c.amount,c.perm,c.kids⟩:Qb)=c:=by cases c;rfl
 try rw[g]
 by_cases j:(bs.length:Int)<=20
 .obtain⟨b,e,l⟩:=Oi c 60 y8 y8;simp only[j,ak,e,Qc];cases b with
  |false=>exact⟨false,by simp[Qc],λh=>by cases h⟩
  |true=>
   obtain⟨f,n⟩:=l rfl;obtain⟨d,p⟩:=Cj c f;obtain⟨v,q,r⟩:=Cn bs c f;obtain⟨x,s,t⟩:=De m hm c f;simp only[ak,R3,p,Qc];by_cases k:d<=300
   .simp only[k,ak,q,Qc];cases v with
    |false=>exact⟨false,by simp[Qc],λh=>by cases h⟩
    |true=>
     simp only[ak,s,Qc];exact⟨x,rfl,λh=>⟨f,r rfl,t h,n,by omega⟩⟩
   .simp only[k,aj,Qc,j6];exact⟨false,rfl,λh=>by cases h⟩
 .exact⟨false,by simp[j,Qc],λh=>by cases h⟩
theorem gu{s:fj}(h:∀n∈s,0<=n)(c:fw s≠0):∀n∈s,1<=n:=λn hn=>by
 have h0:=h n hn;rcases Int.lt_or_eq_of_le h0 with g|g
 .omega
 .subst g;exact absurd (rL hn) c
theorem gj{c:Type}{b:Nat}{l es:List c}(h:l.length+es.length<=100000000)(d:b<=1000):app b l es=some (l++es):=Ic (by
 have e:(l.length+es.length)*b<=100000000*1000:=dA h d;have f:100000000*1000<=gO:=by decide +kernel
 omega)
def C2(n:Int)(a:fj):List fj:=(List.range n.toNat).map λ(k:Nat)=>a++[(k:Int)]
def oD(out:List fj)(n:Int):List fj:=out.flatMap (C2 n)
def ig:fj->List fj
 |[]=>[[]]
 |n::s=>(List.range n.toNat).flatMap λ(k:Nat)=>(ig s).map ((k:Int)::·)
theorem yW:∀(s:fj) (out:List fj),s.foldl oD out=out.flatMap λa=>(ig s).map (a++·)
 |[],out=>by
  simp only[List.foldl_nil,ig,zU,jU,aN];induction out with
  |nil=>rfl
  |cons a o c=>rw[aS,<-c];rfl
 |n::s,out=>by
  rw[cd,yW s,oD,List.flatMap_assoc];congr 1
  funext a
  rw[C2,List.flatMap_map,ig,List.map_flatMap];congr 1
  funext k
  rw[zF];congr 1
  funext x
  simp
theorem Mo(s:fj):s.foldl oD [[]]=ig s:=by rw[yW];simp
def pm:fj->Nat
 |[]=>1
 |n::s=>max n.toNat 1*pm s
theorem HP:∀s:fj,1<=pm s
 |[]=>j7 _
 |n::s=>by
  have:=HP s;rw[pm];exact dA (show 1<=max n.toNat 1 by omega) this
theorem HH(n:Int)(a:fj):(C2 n a).length=n.toNat:=by simp[C2]
theorem u7(n:Int):∀out:List fj,(oD out n).length=out.length*n.toNat
 |[]=>by simp[oD]
 |a::o=>by
  have:=u7 n o;unfold oD at this |-;rw[aS,jV,HH,this,zG,av,bA];omega
theorem Dc{out:List (fj)}{n:Int}{m:Nat}(h:∀a∈out,a.length=m):∀a∈oD out n,a.length=m+1:=λa c=>by
 unfold oD at c;obtain⟨b,d,hc⟩:=bE.1 c;unfold C2 at hc;obtain⟨k,_,rfl⟩:=ar.1 hc;simp[h b d]
theorem vY:∀{s x:fj},x∈ig s↔iB s x=true
 |[],x=>by
  cases x with
  |nil=>simp[ig,iB]
  |cons a x=>simp[ig,iB]
 |n::s,x=>by
  rw[ig,bE];constructor
  .rintro⟨k,c,h⟩
   obtain⟨y,d,rfl⟩:=ar.1 h;have:=ct.1 c;simp only[iB,jE,zD];exact⟨by omega,vY.1 d⟩
  .intro h;cases x with
   |nil=>cases h
   |cons a x=>
    simp only[iB,jE,zD]at h;refine⟨a.toNat,ct.2 y8,ar.2 ⟨x,vY.2 h.2,?_⟩⟩;rw[bU h.1.1]
theorem ox{d:Type}(f:Nat->List d)(c:Nat)(h:∀k,(f k).length=c):∀m:Nat,((List.range m).flatMap f).length=m*c
 |0=>by simp
 |m+1=>by rw[ej,dx,jV,ox f c h m];simp[h,av]
theorem ko:∀{s:fj},(∀n∈s,0<=n)->((ig s).length:Int)=fw s
 |[],_=>by simp[ig,fw]
 |n::s,h=>by
  have c:=ko (s:=s) λm hm=>h m (jG _ hm)
  have h0:=h n (jM ..);rw[ig,ox _ (ig s).length (λk=>by simp),bR,c,fV,bU h0]
theorem nX{l:Type}(f:Nat->List l)(c:Nat)(h:∀k,(f k).length=c)(hc:1<=c):∀(m j:Nat),j<m*c->((List.range m).flatMap f)[j]?=(f (j/c))[j%c]?
 |0,j,e=>by simp at e
 |m+1,j,e=>by
  rw[ej,dx,jT];have hl:=ox f c h m;rw[hl];by_cases d:j<m*c
  .rw[ai d];exact nX f c h hc m j d
  .rw[af d];have g:j/c=m:=Nat.div_eq_of_lt_le y8 y8
   have n:j%c=j - m*c:=by
    have:=cj j c;rw[g,bB]at this;omega
   rw[g,n];simp
theorem kK:∀{s:fj},(∀n∈s,1<=n)->∀j:Nat,(j:Int)<fw s->(ig s)[j]?=some (iT s (j:Int))
 |[],_,j,c=>by
  have:j=0:=by simp[fw]at c;omega
  subst this;rfl
 |n::s,h,j,c=>by
  have d:∀m∈s,1<=m:=λm hm=>h m (jG _ hm)
  have h0:=h n (jM ..);have hl:=ko (s:=s) λm hm=>by have:=d m hm;omega
  have g:=fM d;rw[fV]at c;have hc:1<=(ig s).length:=by omega
  have e:j<n.toNat*(ig s).length:=by
   have:((n.toNat*(ig s).length:Nat):Int)=n*fw s:=by rw[bR,hl,bU y8]
   omega
  rw[ig,nX _ (ig s).length (λk=>by simp) hc _ _ e,jD];have hm:((j% (ig s).length:Nat):Int)=(j:Int)%fw s:=by rw[cy,hl]
  have f:((j/(ig s).length:Nat):Int)=(j:Int)/fw s:=by rw[Int.natCast_ediv,hl]
  rw[kK d (j% (ig s).length) (by rw[hm];exact aX _ y8),jN,hm,f,iT]
theorem Kq:∀s:fj,((pm s:Nat):Int)=Fe s
 |[]=>rfl
 |n::s=>by
  rw[pm,Fe,bR,Kq s];congr 1;split <;>omega
theorem IC{m:Int}{s:fj}(h:s9 m s)(hm:1<=m):(pm s:Int)<=100*m:=by
 rcases h.2.2.2 with rfl|h
 .simp[pm];omega
 .rw[Kq];exact h
def l4:fj->fj->Int->Int
 |a::s,b::t,x=>l4 s t (W (x+W (a*b)))
 |_,_,x=>x
def jg:fj->fj->fj->Prop
 |[],[],[]=>True
 |n::s,l::lo,h::hi=>(0<=l/\l<=h/\h<=n)/\jg s lo hi
 |_,_,_=>False
def okB:fj->fj->fj->Prop
 |[],[],[]=>True
 |n::s,l::lo,h::hi=>(0<=l/\l<h/\h<=n)/\okB s lo hi
 |_,_,_=>False
def fW:fj->fj->Bool
 |l::lo,h::hi=>decide (l<h) &&fW lo hi
 |_,_=>true
def CW:fj->fj->fj
 |l::lo,h::hi=>(h - l)::CW lo hi
 |_,_=>[]
theorem kH:∀{s lo hi:fj},jg s lo hi->lo.length=s.length/\hi.length=s.length
 |[],[],[],_=>⟨rfl,rfl⟩
 |n::s,l::lo,h::hi,H=>by have:=kH H.2;simp[this]
 |[],_::_,_,h=>by simp[jg]at h
 |[],[],_::_,h=>by simp[jg]at h
 |_::_,[],_,h=>by simp[jg]at h
 |_::_,_::_,[],h=>by simp[jg]at h
theorem tV:∀{s lo hi:fj},jg s lo hi->fW lo hi=true->okB s lo hi
 |[],[],[],_,_=>trivial
 |n::s,l::lo,h::hi,H,f=>by
  simp only[fW,jE,zD]at f;obtain⟨⟨k1,k2,k3⟩,c⟩:=H;exact⟨⟨k1,f.1,k3⟩,tV c f.2⟩
 |[],_::_,_,h,_=>by simp[jg]at h
 |[],[],_::_,h,_=>by simp[jg]at h
 |_::_,[],_,h,_=>by simp[jg]at h
 |_::_,_::_,[],h,_=>by simp[jg]at h
theorem DD:∀{s lo hi:fj},okB s lo hi->1<=fw (CW lo hi)/\fw (CW lo hi)<=fw s
 |[],[],[],_=>⟨aC _,aC _⟩
 |n::s,l::lo,h::hi,H=>by
  obtain⟨⟨k1,k2,k3⟩,c⟩:=H;obtain⟨d,e⟩:=DD c;rw[CW,fV,fV];have a:=bg (show 1<=h - l by omega) d y8 y8;have b:=bg (show h - l<=n by omega) e y8 y8;omega
 |[],_::_,_,h=>by simp[okB]at h
 |[],[],_::_,h=>by simp[okB]at h
 |_::_,[],_,h=>by simp[okB]at h
 |_::_,_::_,[],h=>by simp[okB]at h
theorem No:∀(lo hi c d:fj),c.length=d.length->lo.length=hi.length->c.length+lo.length<=600->ZY (c++lo,d++hi,(c.length:Int))=some (if fW lo hi then .inr ()else .inl ())
 |[],[],c,d,f,j,h=>by
  rw[ZY];simp only[Za,aj];rfl
 |l::lo,h::hi,c,d,f,j,hl=>by
  rw[ZY];have k:idx (d++h::hi) (c.length:Int)=some h:=by rw[f];exact Qy
  have e:=No lo hi (c++[l]) (d++[h]) (by simp[f]) (by simpa using j) (by simp at hl |-;omega);rw[<-Qv,<-Qv]at e;simp only[Q4,ak,k,Qy,Qc,Ed hl,e,fW];by_cases g:l<h
  .rw[af (show¬l>=h by omega)];simp only[g,decide_true,aY]
  .rw[ai (show l>=h by omega)];simp only[g,y3,cu];rfl
 |[],_::_,_,_,_,h,_=>by cases h
 |_::_,[],_,_,_,h,_=>by cases h
theorem AZ:∀{s lo hi:fj},okB s lo hi->∀n∈s,1<=n
 |[],_,_,_,n,hn=>by simp at hn
 |m::s,l::lo,h::hi,H,n,hn=>by
  obtain⟨⟨k1,k2,k3⟩,c⟩:=H;rcases aq.1 hn with rfl|hn
  .omega
  .exact AZ c n hn
 |_::_,[],_,h,_,_=>by simp[okB]at h
 |_::_,_::_,[],h,_,_=>by simp[okB]at h
theorem Nl:∀(s lo hi c d:fj) (v:Int),okB s lo hi->c.length=d.length->c.length+lo.length<=600->1<=v->v*fw s<=65536->ZZ (c++lo,d++hi,v,(c.length:Int))=some (v*fw (CW lo hi))
 |[],[],[],c,d,v,H,f,h,g,k=>by
  rw[ZZ];simp only[Za,aj,CW,ib,bO]
 |n::s,l::lo,h::hi,c,d,v,H,f,hl,g,k=>by
  rw[ZZ];have j:=fM (λm hm=>AZ H m (jG _ hm));obtain⟨⟨k1,k2,k3⟩,p⟩:=H;have q:idx (d++h::hi) (c.length:Int)=some h:=by rw[f];exact Qy
  rw[fV,<-bF]at k;have r:v*(h - l)<=v*n:=bn y8 y8;have b1:1<=v*(h - l):=by have:=bg g (show 1<=h - l by omega) y8 y8;omega
  have b2:(v*n)*1<=v*n*fw s:=bn j y8;have w:1*n<=v*n:=aI g y8;have x:v*(h - l)*fw s<=v*n*fw s:=aI r y8;have t:W (h - l)=h - l:=lg y8 y8;have u:W (v*(h - l))=v*(h - l):=lg y8 y8;have e:=Nl s lo hi (c++[l]) (d++[h]) (v*(h - l)) p (by simp[f]) (by simp at hl |-;omega) b1 y8;rw[<-Qv,<-Qv]at e;simp only[Q4,ak,q,Qy,Qc,Ed hl,t,u,e,CW,fV,bF]
 |[],_::_,_,_,_,_,h,_,_,_,_=>by simp[okB]at h
 |[],[],_::_,_,_,_,h,_,_,_,_=>by simp[okB]at h
 |_::_,[],_,_,_,_,h,_,_,_,_=>by simp[okB]at h
 |_::_,_::_,[],_,_,_,h,_,_,_,_=>by simp[okB]at h
def Hl(lo hi:fj):Int:=if fW lo hi then fw (CW lo hi)else 0
theorem zl{s lo hi:fj}(g:fw s<=65536)(e:lo.length=hi.length)(hl:lo.length<=600)(H:fW lo hi=true->okB s lo hi):Y9 (lo,hi)=some (Hl lo hi):=by
 have c:=No lo hi [] [] rfl e (by simpa using hl);simp only[jQ,jL,jJ]at c;unfold Y9 Hl;by_cases f:fW lo hi=true
 .have d:=Nl s lo hi [] [] 1 (H f) rfl (by simpa using hl) y8 y8;simp only[jQ,jL,jJ,cq]at d;simp only[c,f,ak,Qc,d]
 .simp only[c,f,aj,Qc];rfl
theorem Dp{s lo hi:fj}(H:fW lo hi=true->okB s lo hi):(decide (Hl lo hi>0))=fW lo hi:=by
 unfold Hl;by_cases f:fW lo hi=true
 .have:=(DD (H f)).1;rw[ai f,f];exact decide_eq_true y8
 .rw[af f,(bb _).mp f];decide
theorem BV{s lo hi:fj}(H:fW lo hi=true->okB s lo hi):(Hl lo hi==0)=!fW lo hi:=by
 unfold Hl;by_cases f:fW lo hi=true
 .have:=(DD (H f)).1;rw[ai f,f];simp;omega
 .rw[af f,(bb _).mp f];decide
def fT(x:Qa):Bool:=fW x.box.lo x.box.hi
def Ro(s lo hi:fj):Prop:=lo.length=s.length/\hi.length=s.length/\(fW lo hi=true->okB s lo hi)
theorem tP{s lo hi:fj}(h:jg s lo hi):Ro s lo hi:=⟨(kH h).1,(kH h).2,tV h⟩
theorem zq{s:fj}(d:fw s<=65536)(k:s.length<=600):∀(l p:List Qa) (g:Nat) (out:List Qa),p.length+l.length<=100000->out.length<=p.length->(∀x∈l,Ro s x.box.lo x.box.hi)->∃g',QL (p++l,g,out,(p.length:Int))=some (g',out++l.filter fT)
 |[],p,g,out,h,m,hw=>by
  rw[QL];simp only[Za,aj];exact⟨g,by simp⟩
 |x::l,p,g,out,h,m,hw=>by
  rw[QL];have c:=hw x (jM ..);obtain⟨l1,l2,c⟩:=c;have hc:=zl d (l1.trans l2.symm) y8 c;have n:W ((p.length:Int)+1)=((p++[x]).length:Int):=by simp at h;rw[lg y8 y8];simp
  simp only[Q4,ak,Qy,Qc,RP,Ph,hc,Dp c,n];by_cases f:fW x.box.lo x.box.hi=true
  .obtain⟨g',e⟩:=zq d k l (p++[x]) (g+1) (out++[x]) (by simp at h |-;omega) y9 (λy j=>hw y (jG _ j));rw[<-Qv]at e;refine⟨g',?_⟩;rw[ai f,gj (by simp at h |-;omega) y8,Qc,e,bG (by exact f)];simp
  .obtain⟨g',e⟩:=zq d k l (p++[x]) g out (by simp at h |-;omega) y9 (λy j=>hw y (jG _ j));rw[<-Qv]at e;refine⟨g',?_⟩;rw[af f,e,bH (by exact f)]
theorem Bz:∀{a b:fj},a≠b->¬iG a b<0->iG b a<0
 |[],[],h,_=>absurd rfl h
 |[],_::_,_,h=>by simp[iG]at h
 |_::_,[],_,_=>by simp[iG]
 |x::a,y::b,h,g=>by
  simp only[iG]at g |-;split at g
  .exact absurd (show(-1:Int)<0 by decide) g
  .split at g
   .rw[ai y8];decide
   .have e:x=y:=by omega
    subst e;rw[af y8,af y8];exact Bz (λe=>h (by rw[e])) g
theorem Iz(x:Qa):∀l:List Qa,∃z m,xq x l=z::m/\(z=x\/∃c,l=z::c)
 |[]=>⟨x,[],rfl,.inl rfl⟩
 |y::l=>by
  rw[xq];split
  .exact⟨y,_,rfl,.inr ⟨l,rfl⟩⟩
  .exact⟨x,_,rfl,.inl rfl⟩
theorem wR(x:Qa):∀l:List Qa,ja l=true->(∀y∈l,y.box.lo≠x.box.lo)->ja (xq x l)=true
 |[],_,_=>rfl
 |y::l,h,hn=>by
  have hl:ja l=true:=by
   cases l with
   |nil=>rfl
   |cons z l=>simp only[ja,jE]at h;exact h.2
  rw[xq];by_cases g:iG y.box.lo x.box.lo<0
  .rw[ai g];have d:=wR x l hl (λz c=>hn z (jG _ c));obtain⟨z,m,e,c⟩:=Iz x l;rw[e]at d |-;simp only[ja,jE,zD];refine⟨?_,d⟩;rcases c with rfl|⟨f,rfl⟩
   .exact g
   .simp only[ja,jE,zD]at h;exact h.1
  .rw[af g];simp only[ja,jE,zD];exact⟨Bz (hn y (jM ..)) g,h⟩
theorem nx:∀{l:List Qa},l.Pairwise (λa b=>a.box.lo≠b.box.lo)->ja (iC l)=true
 |[],_=>rfl
 |x::l,h=>by
  obtain⟨c,d⟩:=aT.1 h;exact wR x (iC l) (nx d) (λy e=>(c y ((lR l).mem_iff.1 e)).symm)
theorem xW{s:fj}(c:fw s<=65536)(d:s.length<=600){l:List Qa}(hl:l.length<=100000)(hw:∀x∈l,Ro s x.box.lo x.box.hi)(f:(l.filter fT).Pairwise λa b=>a.box.lo≠b.box.lo):Zq l=some (iC (l.filter fT)):=by
 obtain⟨g',e⟩:=zq c d l [] 0 [] (by simpa using hl) yA hw;have e':QL (l,0,[],0)=some (g',l.filter fT):=e;have j:=dh fT l
 have es:Br (l.filter fT)=some (iC (l.filter fT)):=by
  refine ai ⟨by omega,?_,nx f⟩;rw[j8];intro x g;have:=(hw x (bk.1 g).1).1;exact decide_eq_true y8
 simp only[Zq,Yk,e',Qc,es];rw[fI (lR _).length_eq];rfl
theorem rb{s:fj}(d:fw s<=65536)(e:s.length<=600)(x:Qa)(hw:jg s x.box.lo x.box.hi):Zq [x]=some (if fT x then[x]else[]):=by
 rw[xW d e (l:=[x]) yA (λy c=>by simp at c;rw[c];exact tP hw) (by by_cases f:fT x=true<;>simp[dU,f])];by_cases f:fT x=true
 .rw[bG f,ai f];rfl
 .rw[bH f,af f];rfl
theorem gh{n:Int}(c:-1000000000000<=n)(d:n<=1000000000000):W n=n:=lg y8 y8
theorem p5{n:Nat}(h:n<=1000000):W ((n:Int)+1)=((n+1:Nat):Int):=by rw[gh y8 y8];omega
theorem mB{c:Type}{l:List c}{i:Nat}{x:c}(h:l[i]?=some x):idx l (i:Int)=some x:=by
 obtain⟨d,e⟩:=ae.1 h;rw[oP d,e]
theorem vD(s:fj)(h:s.length<=600):jb 8 (s.length:Int) (0:Int)=some (List.replicate s.length 0):=by
 have:((s.length:Int)*8<=(gO:Int)):=by
  have:(1000:Nat)*8<=gO:=by decide +kernel
  omega
 simp[jb,this];omega
theorem rQ(s:fj)(h:s.length<=600):∃g,Yu s=some (g,List.replicate s.length 0,s):=by
 refine⟨mg (List.replicate s.length (0:Int)),?_⟩;simp only[Yu,vD s h,Qc,Qu,gj (b:=8) (l:=([]:fj)) (es:=s) y9 y8,jQ]
def mc(b:Int)(s:fj):Qa:=⟨⟨List.replicate s.length 0,s⟩,⟨2,b,0,gF s,0,0,0⟩⟩
theorem ky:∀{s:fj},(∀n∈s,0<=n)->jg s (List.replicate s.length 0) s
 |[],_=>trivial
 |n::s,h=>by
  rw[zG,aJ];have:=h n (jM ..);exact⟨⟨aC _,this,aC _⟩,ky λm hm=>h m (jG _ hm)⟩
theorem oZ:∀{s:fj},(∀n∈s,1<=n)->fW (List.replicate s.length 0) s=true
 |[],_=>rfl
 |n::s,h=>by
  rw[zG,aJ,fW,oZ λm hm=>h m (jG _ hm)];have:=h n (jM ..);simp;omega
theorem yG{s:fj}(h:∀n∈s,0<=n):fW (List.replicate s.length 0) s=if fw s=0 then false else true:=by
 by_cases z:fw s=0
 .rw[ai z];cases f:fW (List.replicate s.length 0) s with
  |false=>rfl
  |true=>
   have:=fM (AZ (tV (ky h) f));omega
 .rw[af z,oZ (gu h z)]
theorem Hf(b:Int){s:fj}(hc:fH s=0):Rh (b,s)=some (if fw s=0 then[]else[mc b s]):=by
 obtain⟨j,c,e⟩:=fE hc;obtain⟨g,f⟩:=rQ s y8;have hn:∀n∈s,0<=n:=λn hn=>(e n hn).1
 have d:Sm s.length:=jf (show s.length<=1000 by omega);unfold Rh;simp only[f,Qc,Rt];by_cases z:fw s=0
 .have es:YK s=some (List.replicate s.length 0):=by
   simp only[YK,nG s d,Qc,hc,ne_eq,not_true,aj,vD s y8,ke s d,iS,z,ak]
  simp only[es,Qc];rw[rb c y8 _ (ky hn),Qc,fT,yG hn,ai z];simp[z]
 .simp only[oK hc (gu hn z),Qc];rw[rb c y8 _ (ky hn),Qc,fT,yG hn,af z,af z];simp[mc]
def jk:fj->fj->fj->Bool
 |[],[],[]=>true
 |l::lo,h::hi,i::is=>(decide (l<=i) &&decide (i<h)) &&jk lo hi is
 |_,_,_=>false
def sj:fj->fj->Bool
 |a::c,b::d=>if a≠b then decide (a<b)else sj c d
 |_,_=>false
theorem lx:∀{s lo hi:fj},okB s lo hi->lo.length=s.length/\hi.length=s.length
 |[],[],[],_=>⟨rfl,rfl⟩
 |n::s,l::lo,h::hi,H=>by have:=lx H.2;simp[this]
 |[],_::_,_,h=>by simp[okB]at h
 |[],[],_::_,h=>by simp[okB]at h
 |_::_,[],_,h=>by simp[okB]at h
 |_::_,_::_,[],h=>by simp[okB]at h
theorem Tz{p:fj}{x:Int}(h:p.length<=100000):W ((p.length:Int)+1)=((p++[x]).length:Int):=by
 rw[gh y8 y8];simp
section
variable{s:fj}
end
def Bf(lo t n:Int):Int:=if t<(if W (lo - n)<0 then 0 else W (lo - n))then t else(if W (lo - n)<0 then 0 else W (lo - n))
def GM(lo hi t n:Int):Int:=if Bf lo t n<(if t<W (hi - n)then t else W (hi - n))then(if t<W (hi - n)then t else W (hi - n))else Bf lo t n
def Be:fj->fj->fj->fj
 |l::lo,t::ts,n::st=>Bf l t n::Be lo ts st
 |_,_,_=>[]
def Bg:fj->fj->fj->fj->fj
 |l::lo,h::hi,t::ts,n::st=>GM l h t n::Bg lo hi ts st
 |_,_,_,_=>[]
theorem IK{lo t n:Int}(h:0<=t):0<=Bf lo t n/\Bf lo t n<=t:=by
 unfold Bf;generalize W (lo - n)=x;split <;>split <;>omega
theorem Oz{lo hi t n:Int}(h:0<=t):Bf lo t n<=GM lo hi t n/\GM lo hi t n<=t:=by
 have:=IK (lo:=lo) (n:=n) h;unfold GM;generalize W (hi - n)=y;generalize Bf lo t n=x at *;split <;>split <;>omega
theorem FJ:∀(st lo t hi c d e f o1 o2:fj),lo.length=st.length->t.length=st.length->hi.length=st.length->d.length=c.length->e.length=c.length->f.length=c.length->c.length+st.length<=600->o1.length=c.length->o2.length=c.length->
  Yb (c++st,d++lo,e++t,f++hi,o1,o2,(c.length:Int))=some (o1++Be lo t st,o2++Bg lo hi t st)
 |[],[],[],[],c,d,e,f,o1,o2,_,_,_,_,_,_,hl,_,_=>by
  rw[Yb];simp only[Za,aj];simp only[Be,Bg,jU]
 |n::st,l::lo,t::ts,h::hi,c,d,e,f,o1,o2,r,s,u,g,j,k,hl,q1,q2=>by
  rw[Yb];have v:idx (d++l::lo) (c.length:Int)=some l:=by rw[<-g];exact Qy
  have w:idx (e++t::ts) (c.length:Int)=some t:=by rw[<-j];exact Qy
  have x:idx (f++h::hi) (c.length:Int)=some h:=by rw[<-k];exact Qy
  have m:=FJ st lo ts hi (c++[n]) (d++[l]) (e++[t]) (f++[h]) (o1++[Bf l t n]) (o2++[GM l h t n]) (by simpa using r) (by simpa using s) (by simpa using u) (by simp[g]) (by simp[j]) (by simp[k]) (by simp at hl |-;omega) (by simp[q1]) (by simp[q2]);rw[<-Qv,<-Qv,<-Qv,<-Qv]at m;have p:app 8 o1 [Bf l t n]=some (o1++[Bf l t n]):=gj (by simp at hl |-;omega) y8;have q:app 8 o2 [GM l h t n]=some (o2++[GM l h t n]):=gj (by simp at hl |-;omega) y8;unfold Bf at p;unfold GM Bf at q;simp only[Q4,ak,Qy,v,w,x,Qc,p,q,Ed hl];refine m.trans ?_;rw[Be,Bg];simp
 |[],_::_,_,_,_,_,_,_,_,_,h,_,_,_,_,_,_,_,_=>by simp at h
 |[],_,_::_,_,_,_,_,_,_,_,_,h,_,_,_,_,_,_,_=>by simp at h
 |[],_,_,_::_,_,_,_,_,_,_,_,_,h,_,_,_,_,_,_=>by simp at h
 |_::_,[],_,_,_,_,_,_,_,_,h,_,_,_,_,_,_,_,_=>by simp at h
 |_::_,_,[],_,_,_,_,_,_,_,_,h,_,_,_,_,_,_,_=>by simp at h
 |_::_,_,_,[],_,_,_,_,_,_,_,_,h,_,_,_,_,_,_=>by simp at h
theorem F5{lo hi t st:fj}(c:lo.length=st.length)(d:t.length=st.length)(f:hi.length=st.length)(hl:st.length<=600):XS (lo,hi,t,st)=some ⟨Be lo t st,Bg lo hi t st⟩:=by
 have e:=FJ st lo t hi [] [] [] [] [] [] c d f rfl rfl rfl (by simpa using hl) rfl rfl;simp only[jQ,jL,jJ]at e;simp only[XS,e,Qc]
theorem uT:∀{lo hi t st:fj},lo.length=st.length->t.length=st.length->hi.length=st.length->(∀n∈t,0<=n)->jg t (Be lo t st) (Bg lo hi t st)
 |[],[],[],[],_,_,_,_=>trivial
 |l::lo,h::hi,t::ts,n::st,d,e,j,c=>by
  have h0:=c t (jM ..);have f:=IK (lo:=l) (n:=n) h0;have g:=Oz (lo:=l) (hi:=h) (n:=n) h0;exact⟨⟨f.1,g.1,g.2⟩,uT (by simpa using d) (by simpa using e) (by simpa using j) λm hm=>c m (jG _ hm)⟩
 |_::_,_,_,[],h,_,_,_=>by simp at h
 |_,_::_,_,[],_,_,h,_=>by simp at h
 |_,_,_::_,[],_,h,_,_=>by simp at h
 |[],_,_,_::_,h,_,_,_=>by simp at h
 |_,[],_,_::_,_,_,h,_=>by simp at h
 |_,_,[],_::_,_,h,_,_=>by simp at h
def Fb(a b:Int):Int:=if a<b then b else a
def Gj(a b:Int):Int:=if b<a then b else a
theorem Nr:∀(a b c d o:fj),a.length=b.length->c.length=d.length->c.length+a.length<=600->o.length=c.length->QU (c++a,d++b,o,(c.length:Int))=some (o++List.zipWith Fb a b)
 |[],[],c,d,o,_,_,hl,_=>by
  rw[QU];simp only[Za,aj];simp only[eL,jU]
 |x::a,y::b,c,d,o,g,e,hl,j=>by
  rw[QU];have k:idx (d++y::b) (c.length:Int)=some y:=by rw[e];exact Qy
  have f:=Nr a b (c++[x]) (d++[y]) (o++[Fb x y]) (by simpa using g) (by simp[e]) (by simp at hl |-;omega) (by simp[j]);rw[<-Qv,<-Qv]at f;have l:app 8 o [Fb x y]=some (o++[Fb x y]):=gj (by simp at hl |-;omega) y8;simp only[Q4,ak,Qy,k,Qc,JR,Ed hl];show(app 8 o [Fb x y]>>=_)=_
  rw[l,Qc];refine f.trans ?_;simp
 |[],_::_,_,_,_,h,_,_,_=>by cases h
 |_::_,[],_,_,_,h,_,_,_=>by cases h
theorem Ns:∀(a b c d o:fj),a.length=b.length->c.length=d.length->c.length+a.length<=600->o.length=c.length->QV (c++a,d++b,o,(c.length:Int))=some (o++List.zipWith Gj a b)
 |[],[],c,d,o,_,_,hl,_=>by
  rw[QV];simp only[Za,aj];simp only[eL,jU]
 |x::a,y::b,c,d,o,g,e,hl,j=>by
  rw[QV];have k:idx (d++y::b) (c.length:Int)=some y:=by rw[e];exact Qy
  have f:=Ns a b (c++[x]) (d++[y]) (o++[Gj x y]) (by simpa using g) (by simp[e]) (by simp at hl |-;omega) (by simp[j]);rw[<-Qv,<-Qv]at f;have l:app 8 o [Gj x y]=some (o++[Gj x y]):=gj (by simp at hl |-;omega) y8;simp only[Q4,ak,Qy,k,Qc,JS,Ed hl];show(app 8 o [Gj x y]>>=_)=_
  rw[l,Qc];refine f.trans ?_;simp
 |[],_::_,_,_,_,h,_,_,_=>by cases h
 |_::_,[],_,_,_,h,_,_,_=>by cases h
theorem KQ{s al ah bl bh:fj}(j:fw s<=65536)(k:al.length=bl.length)(l:ah.length=bh.length)(n:al.length=ah.length)(hl:al.length<=600)(H:fW (List.zipWith Fb al bl) (List.zipWith Gj ah bh)=true->okB s (List.zipWith Fb al bl) (List.zipWith Gj ah bh)):
  JD (⟨al,ah⟩,⟨bl,bh⟩)=some (if fW (List.zipWith Fb al bl) (List.zipWith Gj ah bh)then(⟨List.zipWith Fb al bl,List.zipWith Gj ah bh⟩,true)else(⟨[],[]⟩,false)):=by
 have d:=Nr al bl [] [] [] k rfl (by simpa using hl) rfl;have e:=Ns ah bh [] [] [] l rfl y9 rfl;simp only[jQ,jL,jJ]at d e;have hc:=zl j (lo:=List.zipWith Fb al bl) (hi:=List.zipWith Gj ah bh) y9 y9 H;have g:¬((al.length:Int)≠(bl.length:Int)):=by omega
 have c:=BV H;simp only[JD,g,aj,Z3,Z4,d,e,Qc,hc];by_cases f:fW (List.zipWith Fb al bl) (List.zipWith Gj ah bh)=true
 .rw[f]at c |-;rw[af (by simpa using c)];rfl
 .have m:=(bb _).mp f;rw[m]at c |-;rw[ai (by simpa using c)];rfl
theorem I9:∀{s e f:fj},jg s e f->List.zipWith Fb (List.replicate s.length 0) e=e/\List.zipWith Gj s f=f
 |[],[],[],_=>⟨rfl,rfl⟩
 |n::s,c::e,d::f,h=>by
  obtain⟨⟨k1,k2,k3⟩,g⟩:=h;obtain⟨j,k⟩:=I9 g;rw[zG,aJ,bY,bY,j,k];have a:Fb 0 c=c:=by unfold Fb;split <;>omega
  have b:Gj n d=d:=by unfold Gj;split <;>omega
  rw[a,b];exact⟨rfl,rfl⟩
 |[],_::_,_,h=>by simp[jg]at h
 |[],[],_::_,h=>by simp[jg]at h
 |_::_,[],_,h=>by simp[jg]at h
 |_::_,_::_,[],h=>by simp[jg]at h
def jc:fj->fj->fj->fj->List (fj×fj)
 |a::al,b::ah,c::e,d::f=>(a::al,c::ah)::(d::al,b::ah)::(jc al ah e f).map λx=>(c::x.1,d::x.2)
 |_,_,_,_=>[]
def qf:fj->fj->fj->fj->Prop
 |[],[],[],[]=>True
 |a::al,b::ah,c::e,d::f=>a<=c/\c<=d/\d<=b/\qf al ah e f
 |_,_,_,_=>False
def pT(b:Ql):Bool:=fW b.lo b.hi
theorem Ah:∀{sp c d e l h:fj},jg sp c d->jg e l h->jg (sp++e) (c++l) (d++h)
 |[],[],[],_,_,_,_,h=>h
 |n::s,a::c,b::d,e,l,h,k,f=>⟨k.1,Ah k.2 f⟩
 |[],_::_,_,_,_,_,h,_=>by simp[jg]at h
 |[],[],_::_,_,_,_,h,_=>by simp[jg]at h
 |_::_,[],_,_,_,_,h,_=>by simp[jg]at h
 |_::_,_::_,[],_,_,_,h,_=>by simp[jg]at h
theorem LJ{c d lo hi:fj}{x y a b:Int}{k:Int}(f:k=(c.length:Int))(e:c.length=d.length)(m:lo.length=hi.length)(hl:c.length+lo.length<=500):X0 (⟨c++x::lo,d++y::hi⟩,k,a,b)=some ⟨c++a::lo,d++b::hi⟩:=by
 subst f;have c1:Qu (c++x::lo)=some (c++x::lo):=gj y9 y8;have c2:Qu (d++y::hi)=some (d++y::hi):=gj y9 y8;have g:iL (c++x::lo) (c.length:Int) a=some (c++a::lo):=by rw[jo yA,qH,<-Qv]
 have j:iL (d++y::hi) (c.length:Int) b=some (d++b::hi):=by rw[e,jo yA,qH,<-Qv]
 have l:idx (d++y::hi) (c.length:Int)=some y:=by rw[e];exact Qy
 simp only[X0,c1,c2,Qc,Qy,g,l,j];rw[fI yA,Qc,fI yA,Qc]
theorem K7{s:fj}(d:fw s<=65536)(e:s.length<=600){b:Ql}(c:jg s b.lo b.hi):YB b=some (!fW b.lo b.hi):=by
 obtain⟨l1,l2⟩:=kH c;simp only[YB,Ph,zl d (l1.trans l2.symm) y8 (tV c),Qc,BV (tV c)]
theorem P7{s:fj}(g:fw s<=65536)(j:s.length<=600){q0 q1 q2 q3 q4 q5 q6 q7:fj}{n:Nat}{b1 b2:Ql}(k:jg s b1.lo b1.hi)(l:jg s b2.lo b2.hi):
  XK (q0,q1,q2,q3,q4,q5,q6,q7,b1.lo,b1.hi,b2.lo,b2.hi,n)=some (if pT b1 then(if pT b2 then .inr (.inr ())else .inl (b1.lo,b1.hi))else(if pT b2 then .inl (b2.lo,b2.hi)else .inr (.inl ()))):=by
 have m:=K7 g j k;have p:=K7 g j l;simp only[XK,Zg,Zk,pT];have c:YB ⟨b1.lo,b1.hi⟩=some (!fW b1.lo b1.hi):=m;have d:YB ⟨b2.lo,b2.hi⟩=some (!fW b2.lo b2.hi):=p;by_cases f:fW b1.lo b1.hi=true
 .by_cases e:fW b2.lo b2.hi=true
  .simp only[c,d,f,e,Qc];rfl
  .simp only[c,d,f,(bb _).mp e,Qc];rfl
 .by_cases e:fW b2.lo b2.hi=true
  .simp only[c,d,(bb _).mp f,e,Qc];rfl
  .simp only[c,d,(bb _).mp f,(bb _).mp e,Qc];rfl
theorem CY{s:fj}(H:fw s<=65536)(c1:Ql):∀(w sp al ah l m j k f g:fj) (out:List Ql),s=sp++w->jg w al ah->qf al ah l m->jg sp f g->j.length=sp.length->k.length=sp.length->s.length<=200->out.length<=2*sp.length->
  ∃p q,YA (⟨j++al,k++ah⟩,⟨f++l,g++m⟩,c1,f++al,g++ah,out,(sp.length:Int))=some (p,q,out++((jc al ah l m).map λx=>(⟨f++x.1,g++x.2⟩:Ql)).filter pT)
 |[],sp,[],[],[],[],j,k,f,g,out,e,hw,hi,z,D,E,hl,I=>by
  rw[YA]
  have:¬((sp.length:Int)<((j++([]:fj)).length:Int)):=by simp;omega
  simp only[this,aj];exact⟨f++[],g++[],by simp[jc]⟩
 |n::w,sp,a::al,b::ah,c::l,d::m,j,k,f,g,out,e,hw,hi,z,D,E,hl,I=>by
  rw[YA];obtain⟨⟨k1,k2,k3⟩,B⟩:=hw;obtain⟨J,K,L,M⟩:=hi;obtain⟨m1,m2⟩:=kH z;obtain⟨n1,n2⟩:=kH B;have N:sp.length+w.length+1<=200:=by rw[e]at hl;simp at hl;omega
  have O:((sp.length:Int)<((j++a::al).length:Int)):=by simp;omega
  have P:idx (j++a::al) (sp.length:Int)=some a:=by rw[<-D];exact Qy
  have Q:idx (f++c::l) (sp.length:Int)=some c:=by rw[<-m1];exact Qy
  have R:idx (g++d::m) (sp.length:Int)=some d:=by rw[<-m2];exact Qy
  have S:idx (k++b::ah) (sp.length:Int)=some b:=by rw[<-E];exact Qy
  have T:∀x y:Int,X0 (⟨f++a::al,g++b::ah⟩,(sp.length:Int),x,y)=some ⟨f++x::al,g++y::ah⟩:=λx y=>LJ (by rw[m1]) y8 y8 y8
  have F:jg s (f++a::al) (g++c::ah):=by rw[e];exact Ah z ⟨⟨k1,J,by omega⟩,B⟩
  have G:jg s (f++d::al) (g++b::ah):=by rw[e];exact Ah z ⟨⟨by omega,L,k3⟩,B⟩
  have U:=P7 H y8 (q0:=j++a::al) (q1:=k++b::ah) (q2:=c1.lo) (q3:=c1.hi) (q4:=f++c::l) (q5:=g++d::m) (q6:=f++a::al) (q7:=g++b::ah) (n:=out.length) (b1:=⟨f++a::al,g++c::ah⟩) (b2:=⟨f++d::al,g++b::ah⟩) F G;have C:W ((sp.length:Int)+1)=((sp++[n]).length:Int):=by rw[gh y8 y8];simp
  have A:=λt (h:t.length<=2*(sp++[n]).length)=>CY H c1 w (sp++[n]) al ah l m (j++[a]) (k++[b]) (f++[c]) (g++[d]) t (by rw[e,Qv]) B M (Ah z ⟨⟨by omega,K,by omega⟩,trivial⟩) (by simp[D]) (by simp[E]) hl h
  simp only[<-Qv]at A
  have V:((jc (a::al) (b::ah) (c::l) (d::m)).map λx=>(⟨f++x.1,g++x.2⟩:Ql))=⟨f++a::al,g++c::ah⟩::⟨f++d::al,g++b::ah⟩::((jc al ah l m).map λx=>(⟨f++c::x.1,g++d::x.2⟩:Ql)):=by
   rw[jc,zU,zU,zF];rfl
  rw[V];simp only[O,ak,P,Q,R,S,Qc,T,U];by_cases u:pT ⟨f++a::al,g++c::ah⟩=true
  .by_cases r:pT ⟨f++d::al,g++b::ah⟩=true
   .obtain⟨p,q,v⟩:=A (out++[⟨f++a::al,g++c::ah⟩,⟨f++d::al,g++b::ah⟩]) y9;refine⟨p,q,?_⟩;rw[bG u,bG r];simp only[u,r,ak];rw[gj y9 y8,Qc,C,v];simp
   .obtain⟨p,q,v⟩:=A (out++[⟨f++a::al,g++c::ah⟩]) y9;refine⟨p,q,?_⟩;rw[bG u,bH r];simp only[u,r,ak,aj,j6];rw[gj y9 y8,Qc,C,v];simp
  .by_cases r:pT ⟨f++d::al,g++b::ah⟩=true
   .obtain⟨p,q,v⟩:=A (out++[⟨f++d::al,g++b::ah⟩]) y9;refine⟨p,q,?_⟩;rw[bH u,bG r];simp only[u,r,ak,aj,j6];rw[gj y9 y8,Qc,C,v];simp
   .obtain⟨p,q,v⟩:=A out y9;refine⟨p,q,?_⟩;rw[bH u,bH r];simp only[u,r,aj,j6];rw[gj y9 y8,Qc,C,jU,v]
 |_::_,_,[],_,_,_,_,_,_,_,_,_,h,_,_,_,_,_,_=>by simp[jg]at h
 |_::_,_,_::_,[],_,_,_,_,_,_,_,_,h,_,_,_,_,_,_=>by simp[jg]at h
 |[],_,_::_,_,_,_,_,_,_,_,_,_,h,_,_,_,_,_,_=>by simp[jg]at h
 |[],_,[],_::_,_,_,_,_,_,_,_,_,h,_,_,_,_,_,_=>by simp[jg]at h
 |_,_,_::_,_::_,[],_,_,_,_,_,_,_,_,h,_,_,_,_,_=>by simp[qf]at h
 |_,_,_::_,_::_,_::_,[],_,_,_,_,_,_,_,h,_,_,_,_,_=>by simp[qf]at h
 |_,_,[],[],_::_,_,_,_,_,_,_,_,_,h,_,_,_,_,_=>by simp[qf]at h
 |_,_,[],[],[],_::_,_,_,_,_,_,_,_,h,_,_,_,_,_=>by simp[qf]at h
theorem sw:∀{s e f:fj},jg s e f->qf (List.replicate s.length 0) s e f
 |[],[],[],_=>trivial
 |n::s,c::e,d::f,h=>by
  obtain⟨⟨k1,k2,k3⟩,g⟩:=h;rw[zG,aJ];exact⟨k1,k2,k3,sw g⟩
 |[],_::_,_,h=>by simp[jg]at h
 |[],[],_::_,h=>by simp[jg]at h
 |_::_,[],_,h=>by simp[jg]at h
 |_::_,_::_,[],h=>by simp[jg]at h
def qc(s c d:fj):List Ql:=(if fW c d then(jc (List.replicate s.length 0) s c d).map λx=>(⟨x.1,x.2⟩:Ql)else[⟨List.replicate s.length 0,s⟩]).filter pT
theorem Kd{s c d:fj}(j:fw s<=65536)(q:s.length<=100)(h0:∀n∈s,0<=n)(hc:jg s c d):PA (⟨List.replicate s.length 0,s⟩,⟨c,d⟩)=some (qc s c d):=by
 obtain⟨l1,l2⟩:=kH hc;obtain⟨k,l⟩:=I9 hc;have m:=KQ (s:=s) (al:=List.replicate s.length 0) (ah:=s) (bl:=c) (bh:=d) j y9 y8 yA y9 (by rw[k,l];exact tV hc);rw[k,l]at m;unfold PA qc;dsimp only;rw[m];by_cases f:fW c d=true
 .obtain⟨r,t,e⟩:=CY (s:=s) j ⟨c,d⟩ s [] (List.replicate s.length 0) s c d [] [] [] [] [] rfl (ky h0) (sw hc) trivial rfl rfl y8 yA;simp only[jQ,jL,jJ]at e;simp only[f,ak,Qc,jO,aj,e]
 .have c1:Qu (List.replicate s.length 0)=some (List.replicate s.length 0):=gj y9 y8;have c2:Qu s=some s:=gj y9 y8;have p:=K7 j y8 (b:=⟨List.replicate s.length 0,s⟩) (ky h0);simp only[f,aj,Qc,ak,c1,c2,Jn,Zh,Zl,p,j6];by_cases g:fW (List.replicate s.length 0) s=true
  .simp[g,pT,Qc]
  .simp[g,pT,Qc]
end Go.Proofs.Tryz
