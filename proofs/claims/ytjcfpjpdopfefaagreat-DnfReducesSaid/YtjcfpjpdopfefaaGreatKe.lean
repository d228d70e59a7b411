/-
 The machine, models, walks, plain laws.
-/
import Derived.Test.YtjcfpjpdopfefaaGreatKd
namespace Go.Proofs.Tryz
open Go Go.Pm
open Option renaming some->O
open Bool renaming true->J,false->U
open Sum renaming inl->Naf,inr->Nag
open List renaming length->I,map->Naa,replicate->Nab,zipWith->Nac,range->Nad
set_option linter.all false
set_option maxHeartbeats 2000000
set_option maxRecDepth 2000
def Ta:(Qt×Int×Int)->Option Qt|(p0,p1,e)=>if p0.bx=1 then O p0 else app 8 ([]:fJ) p0.bm>>=λc=>idx c p1>>=λv2=>idx c p1>>=λf=>idx c p1>>=λk=>iM c p1 (W<|0 - f)>>=λd=>idx p0.bm p1>>=λg=>QN (I d=I c)>>=λ_=>RN (p0,(W<|(W<|e - 1)*g),d)>>=λj=>O j
def QhE{p0 p1 p2 r0}(V:Ta (p0,p1,p2)=O r0):FQ 85 [(Qt.b8 p0),(Qg p1),(Qg p2)] (.b7<|Qt.b8 r0):=by
 unfold Ta at V
 exact fp (fn:=f85) rfl<|ge 2<|Qh<|ge 3<|mQ V (λV=>ge 2<|Qn zf) (λV=>Qm<|gr 3 (bi V λd c V=>Zb (v:=.ms 1 (gb 0 p0.bm.isEmpty) 0 (I d) (I d)) (λH=>H.set 1<|JN p0.bm.isEmpty d) rfl kr (λ_ f=>TQ Qg (l:=([]:fJ)) (es:=p0.bm) (bytes:=8) (e:=3) (tt:=1) (g:=0) (m:=I ([]:fJ)) c yC kr kr kr kr rfl rfl kr rfl kr (sX yC) f)<|re 1<|gr 4 (bi V λv2 c V=>QA rfl (λ_=>QR (e:=3) (n:=p1) (j:=(p1).toNat) (tt:=1) (g:=(gb 0 p0.bm.isEmpty)) (lo:=0) (len:=I d) (cap:=I d) (k:=.i64) kr kr rfl kr kr (gw c)<|zB (gJ c) rfl) (bi V λr c V=>QA rfl (λ_=>Ye (tt:=1) (g:=(gb 0 p0.bm.isEmpty)) (j:=(0+(p1).toNat)) (e:=3) (cs:=cellsOf Qg d) (v:=.b7 (Qg r)) kr kr rfl kr (Zt kr)<|gM Qg c)<|Qe 1 (bi V λs c V=>QA rfl (λ_=>QR (e:=3) (n:=p1) (j:=(p1).toNat) (tt:=1) (g:=(gb 0 p0.bm.isEmpty)) (lo:=0) (len:=I d) (cap:=I d) (k:=.i64) kr kr rfl kr kr (gw c)<|zB (gJ c) rfl) (bi V λp c V=>Zb (λH=>H.set 1<|JN p0.bm.isEmpty p) rfl kr (λ_=>Js Qg (l:=d) (n:=p1) (y:=(W<|0 - r)) c yC kr rfl kr kr kr kr)<|Q6<|Qh<|Zd<|Qe 6 (QE 1 Qg V λt V=>Qe 2 (gi V λq V=>Zb (v:=(La p)) (λH=>H.set 1<|.mt 3 ((gb 0 p0.bm.isEmpty)+1)<|cellsOf Qg ([]:fJ)) rfl kr (λ_ f=>Qio Qg (l:=p) (tt:=1) (e:=3) (g:=(gb 0 p0.bm.isEmpty)) (m:=I d) (cap:=I d) q yC rfl kr kr kr f) (bi V λu c V=>cp (QfJ c)<|re 1 ⟨kr,Qn zf⟩)))))))))
def Ya:((List Qc)×Int×Int×(List Qc)×Int)->Option ((List Qc))|(p0,p1,n,e,c)=>if c<(I p0:Int)then idx p0 c>>=λd=>idx d.box.hi p1>>=λf=>idx d.box.lo p1>>=λg=>Yj (d.box,p1,(W<|n - f),(W<|n - g))>>=λj=>idx p0 c>>=λk=>Ta (k.be,p1,n)>>=λl=>Zo (e,(⟨j,l⟩:Qc))>>=λm=>Ya (p0,p1,n,m,(W<|c+1))else O e
 partial_fixpoint
def WZ:∀x r,Ya x=O r->match x with|(p0,p1,j,c,e)=>LQ f35 35 [1,1,0,1,0,0] 0 ⟨kp 50 [(0,(QL p0)),(1,(Qd p1)),(2,(Qd j)),(7,(QL c)),(8,(Qd e))],[]⟩ (P1 (.exit 0) (λf d=>⟨sl d 50 [(7,(QL f))],[]⟩) r):=by refine Ya.partial_correctness _ (λYa WZ x r V=>?_);obtain⟨p0,p1,j,c,e⟩:=x;exact lp<|Qh<|gr 2<|QM Qc.b8 p0<|re 1<|ri V (λV=>Qm<|Qh<|Ql<|gr 2 (QE 9 Qc.b8 V λk V=>re 4<|Zd<|Qe 7 (QE 1 Qg V λl V=>Qe 6 (QE 1 Qg V λm V=>Qe 2 (bi V λn g V=>cp (V6 g)<|Qe 2 (QE 9 Qc.b8 V λp V=>Qe 4 (bi V λq g V=>cp (QhE g)<|Qe 1 (bi V λs g V=>cp (P0 g)<|re 1 ⟨kr,gp<|re 3<|WZ _ _ V _ kr⟩)))))))) (λV=>QD zf)
def UJ:((List Qc)×Int×Int)->Option (List Qc)|(p0,p1,d)=>Ya (p0,p1,d,([]:List Qc),0)>>=λc=>O c
def QgL{p0 p1 p2 r0}(V:UJ (p0,p1,p2)=O r0):FQ 35 [(.ew<|(Naa Qc.b8) p0),(Qg p1),(Qg p2)] (QL r0):=by unfold UJ at V;exact fp (fn:=f35) rfl<|ge 1<|ge 1<|Qh<|ge 1<|Ql (kY V (WZ _) λc d V=>ge 2<|Qn zf)
def YM:((List Qc)×Int×Int×Int×(List Qc)×Int)->Option ((List Qc))|(p0,p1,e,v,f,d)=>if d<(I p0:Int)then idx p0 d>>=λc=>idx c.box.lo p1>>=λg=>idx c.box.hi p1>>=λk=>Yj (c.box,p1,(W<|(if g<e then e else g) - e),(W<|k - e))>>=λl=>idx p0 d>>=λm=>YX (m.be,p1,e)>>=λn=>Zo (f,(⟨l,n⟩:Qc))>>=λp=>idx c.box.lo p1>>=λq=>idx c.box.hi p1>>=λj=>Yj (c.box,p1,(W<|(W<|q+v) - e),(W<|(W<|(if e<j then e else j)+v) - e))>>=λr=>idx p0 d>>=λs=>YX (s.be,p1,(W<|e - v))>>=λt=>Zo (p,(⟨r,t⟩:Qc))>>=λu=>YM (p0,p1,e,v,u,(W<|d+1))else O f
 partial_fixpoint
def Qda:∀x r,YM x=O r->match x with|(p0,p1,p,q,e,f)=>LQ f36 36 [1,1,0,1,0,0] 0 ⟨kp 90 [(0,(QL p0)),(1,(Qd p1)),(2,(Qd p)),(3,(Qd q)),(9,(QL e)),(10,(Qd f))],[]⟩ (P1 (.exit 0) (λg d=>⟨sl d 90 [(9,(QL g))],[]⟩) r):=by refine YM.partial_correctness _ (λYM Qda x r V=>?_);obtain⟨p0,p1,p,q,e,f⟩:=x;exact lp<|Qh<|gr 2<|QM Qc.b8 p0<|re 1<|ri V (λV=>Qm<|Qh<|Ql<|gr 2 (QE 9 Qc.b8 V λs V=>re 4<|Qh<|Zd<|Qe 6 (QE 1 Qg V λj V=>Qe 2<|QA rfl (λ_=>Ki (k:=.i64) (m:=j) (n:=p) rfl kr kr)<|Qe 5 (QE 1 Qg V λt V=>Qe 3 (bi V λu c V=>cp (V6 c)<|Qe 2 (QE 9 Qc.b8 V λv V=>Qe 4 (bi V λw c V=>cp (Vt c)<|Qe 1 (bi V λy c V=>cp (P0 c)<|re 1 ⟨kr,Zd<|Qe 6 (QE 1 Qg V λz V=>Qe 8 (QE 1 Qg V λl V=>Qe 2<|QA rfl (λ_=>Hf (k:=.i64) (m:=l) (n:=p) rfl kr kr)<|Qe 4 (bi V λA c V=>cp (V6 c)<|Qe 2 (QE 9 Qc.b8 V λB V=>Qe 6 (bi V λC c V=>cp (Vt c)<|Qe 1 (bi V λD c V=>cp (P0 c)<|re 1 ⟨kr,gp<|re 3<|Qda _ _ V _ kr⟩))))))⟩)))))))) (λV=>QD zf)
def UP:((List Qc)×Int×Int×Int)->Option (List Qc)|(p0,p1,d,e)=>YM (p0,p1,d,e,([]:List Qc),0)>>=λc=>O c
def Qg7{p0 p1 p2 p3 r0}(V:UP (p0,p1,p2,p3)=O r0):FQ 36 [(.ew<|(Naa Qc.b8) p0),(Qg p1),(Qg p2),(Qg p3)] (QL r0):=by unfold UP at V;exact fp (fn:=f36) rfl<|ge 1<|ge 1<|Qh<|ge 1<|Ql (kY V (Qda _) λc d V=>ge 2<|Qn zf)
def ZM:(fJ×Int×Qt×Int×fJ×Int×Int)->Option Int|(p1,d,p0,k,f,e,c)=>if c<(I p1:Int)then idx p1 c>>=λg=>if g=d then idx p0.bm c>>=λj=>ZM (p1,d,p0,k,f,(W<|e+j),(W<|c+1))else ZM (p1,d,p0,k,f,e,(W<|c+1))else O e
 partial_fixpoint
def Vr:∀x r,ZM x=O r->match x with|(p1,e,p0,k,c,f,g)=>LQ f86 86 [1,1,1,0,1,0,0,1,0,0,1,0,1,0,0] 3 ⟨kp 46 [(1,(La p1)),(2,(Qd k)),(3,(.ptr 0 0)),(6,(.ptr 1 0)),(7,(Oj c)),(8,(Qd e)),(9,(Qd f)),(10,(Qd g))],[(QB p0.bx p0.bc p0.ek p0.bm p0.ed p0.dk p0.ep),Za,(.tok 3<|I c)]⟩ (P1 (.exit 2) (λj d=>⟨sl d 46 [(1,(La p1)),(2,(Qd k)),(3,(.ptr 0 0)),(6,(.ptr 1 0)),(7,(Oj c)),(8,(Qd e)),(9,(Qd j))],[(QB p0.bx p0.bc p0.ek p0.bm p0.ed p0.dk p0.ep),Za,(.tok 3<|I c)]⟩) r):=by refine ZM.partial_correctness _ (λZM Vr x r V=>?_);obtain⟨p1,e,p0,k,c,f,g⟩:=x;exact lp<|Qh<|gr 2<|QM Qg p1<|re 1<|ri V (λV=>Qm<|Qh<|Ql<|gr 2 (QE 1 Qg V λl V=>re 3<|mQ V (λV=>gp<|Qe 4 (QE 1 Qg V λm V=>re 3<|gp<|re 3<|Vr _ _ V _ kr)) (λV=>Qm<|gp<|re 3<|Vr _ _ V _ kr))) (λV=>QD zf)
def Z7:(Int×fJ×Qt×fJ×Int)->Option (fJ)|(g,p1,p0,c,d)=>if d<g then ZM (p1,d,p0,g,c,0,0)>>=λe=>app 8 c ([e]:fJ)>>=λf=>Z7 (g,p1,p0,f,(W<|d+1))else O c
 partial_fixpoint
def QcH:∀x r,Z7 x=O r->match x with|(k,p1,p0,c,f)=>LQ f86 86 [1,1,1,0,1,0,0] 3 ⟨kp 46 [(1,(La p1)),(2,(Qd k)),(3,(.ptr 0 0)),(6,(.ptr 1 0)),(7,(Oj c)),(8,(Qd f))],[(QB p0.bx p0.bc p0.ek p0.bm p0.ed p0.dk p0.ep),Za,(.tok 3<|I c)]⟩ (P1 (.exit 0) (λg d=>⟨sl d 46 [(3,(.ptr 0 0)),(6,(.ptr 1 0)),(7,(Oj g))],[(QB p0.bx p0.bc p0.ek p0.bm p0.ed p0.dk p0.ep),Za,(.tok 3<|I g)]⟩) r):=by refine Z7.partial_correctness _ (λZ7 QcH x r V=>?_);obtain⟨k,p1,p0,c,f⟩:=x;exact lp<|Qh<|ge 3<|ri V (λV=>Qm<|Qh<|Ql<|ge 1<|Qh<|ge 1<|Ql (kY V (Vr _) λe d V=>gp<|Qe 3 (bi V λj l V=>YA 3 1 8 2 Qg c ([e]:fJ) j (xs:=(Naa Qg) c) (es:=(Naa Qg) ([e]:fJ)) (L:=(Naa Qg)) yC rfl rfl yC l<|re 1<|gp<|re 3<|QcH _ _ V _ kr))) (λV=>QD zf)
def Jw:(Qt×fJ×Int)->Option Qt|(p0,p1,e)=>if p0.bx=1 then O p0 else Z7 (e,p1,p0,([]:fJ),0)>>=λd=>RN (p0,0,d)>>=λc=>O c
def QgK{p0 p1 p2 r0}(V:Jw (p0,p1,p2)=O r0):FQ 86 [(Qt.b8 p0),(Lb p1),(Qg p2)] (.b7<|Qt.b8 r0):=by unfold Jw at V;exact fp (fn:=f86) rfl<|ge 2<|Qh<|ge 3<|mQ V (λV=>ge 2<|Qn zf) (λV=>Qm<|ge 1<|Qh<|ge 1<|Ql (kY V (QcH _) λe d V=>gr 2 (bi V λc f V=>cp (QfJ f)<|re 1<|Qn zf)))
def Zw:(fJ×Int×(List Qc)×Int×fJ×(List Qc)×fJ×fJ×Int×Int×Int)->Option ((Int×Int))|(p1,g,p0,f,s,l,m,n,d,e,c)=>if c<(I p1:Int)then idx p1 c>>=λp=>if p=g then idx p0 f>>=λq=>idx q.box.lo c>>=λj=>idx p0 f>>=λr=>idx r.box.hi c>>=λk=>Zw (p1,g,p0,f,s,l,m,n,(if d<j then j else d),(if k<e then k else e),(W<|c+1))else Zw (p1,g,p0,f,s,l,m,n,d,e,(W<|c+1))else O (d,e)
 partial_fixpoint
def V5:∀x r,Zw x=O r->match x with|(p1,j,p0,l,w,p,c,e,f,g,q)=>LQ f37 37 [1,1,0,1,0,0,1,0,0,1,0,1,0,0,1,0,0,1,1,0,1,0,0] 5 ⟨kp 87 [(0,(QL p0)),(1,(La p1)),(2,(La w)),(7,(QL p)),(8,(Qd l)),(9,(.ptr 2 0)),(10,(Qd j)),(11,(Qd f)),(12,(Qd g)),(13,(Qd q))],(Rx (I c) (I e) c e)⟩ (P1 (.exit 4) (λ(s,t) d=>⟨sl d 87 [(0,(QL p0)),(1,(La p1)),(2,(La w)),(7,(QL p)),(8,(Qd l)),(9,(.ptr 2 0)),(10,(Qd j)),(11,(Qd s)),(12,(Qd t))],(Rx (I c) (I e) c e)⟩) r):=by refine Zw.partial_correctness _ (λZw V5 x r V=>?_);obtain⟨p1,j,p0,l,w,p,c,e,f,g,q⟩:=x;exact lp<|Qh<|gr 2<|QM Qg p1<|re 1<|ri V (λV=>Qm<|Qh<|Ql<|gr 2 (QE 1 Qg V λy V=>re 3<|mQ V (λV=>gr 3 (QE 9 Qc.b8 V λz V=>Qe 4 (QE 1 Qg V λu V=>Qe 1<|QA rfl (λ_=>Ki (k:=.i64) (m:=f) (n:=u) rfl kr kr)<|re 1<|gp<|Qe 3 (QE 9 Qc.b8 V λA V=>Qe 4 (QE 1 Qg V λv V=>Qe 1<|QA rfl (λ_=>Hf (k:=.i64) (m:=g) (n:=v) rfl kr kr)<|re 1<|gp<|re 3<|V5 _ _ V _ kr))))) (λV=>Qm<|gp<|re 3<|V5 _ _ V _ kr))) (λV=>QD zf)
def Z1:(fJ×fJ×(List Qc)×Int×(List Qc)×fJ×fJ×Int)->Option ((fJ×fJ))|(n,p1,p0,f,g,c,d,e)=>if e<(I n:Int)then Zw (p1,e,p0,f,n,g,c,d,0,65536,0)>>=λ(j,k)=>app 8 c ([j]:fJ)>>=λl=>app 8 d ([k]:fJ)>>=λm=>Z1 (n,p1,p0,f,g,l,m,(W<|e+1))else O (c,d)
 partial_fixpoint
def WH:∀x r,Z1 x=O r->match x with|(s,p1,p0,f,g,c,e,n)=>LQ f37 37 [1,1,0,1,0,0,1,0,0,1,0,1,0,0] 5 ⟨kp 87 [(0,(QL p0)),(1,(La p1)),(2,(La s)),(7,(QL g)),(8,(Qd f)),(9,(.ptr 2 0)),(10,(Qd n))],(Rx (I c) (I e) c e)⟩ (P1 (.exit 2) (λ(j,k) d=>⟨sl d 87 [(0,(QL p0)),(1,(La p1)),(2,(La s)),(7,(QL g)),(8,(Qd f)),(9,(.ptr 2 0))],(Rx (I j) (I k) j k)⟩) r):=by refine Z1.partial_correctness _ (λZ1 WH x r V=>?_);obtain⟨s,p1,p0,f,g,c,e,n⟩:=x;exact lp<|Qh<|gr 2<|QM Qg s<|re 1<|ri V (λV=>Qm<|Qh<|Ql<|ge 1<|ge 1<|Qh<|ge 1<|Ql (kY V (V5 _) λ⟨l,m⟩ d V=>gr 4 (bi V λp t V=>YA 3 1 8 0 Qg c ([l]:fJ) p (xs:=(Naa Qg) c) (es:=(Naa Qg) ([l]:fJ)) (L:=(Naa Qg)) yC rfl rfl yC t<|re 2<|gp<|Qe 4 (bi V λq t V=>YA 3 1 8 1 Qg e ([m]:fJ) q (xs:=(Naa Qg) e) (es:=(Naa Qg) ([m]:fJ)) (L:=(Naa Qg)) yC rfl rfl yC t<|re 2<|gp<|re 3<|WH _ _ V _ kr)))) (λV=>QD zf)
def ZJ:((List Qc)×fJ×fJ×(List Qc)×Int)->Option ((List Qc))|(p0,l,p1,d,c)=>if c<(I p0:Int)then Z1 (l,p1,p0,c,d,([]:fJ),([]:fJ),0)>>=λ(e,f)=>idx p0 c>>=λg=>Jw (g.be,p1,(I l:Int))>>=λj=>Zo (d,(⟨(⟨e,f⟩:Qk),j⟩:Qc))>>=λk=>ZJ (p0,l,p1,k,(W<|c+1))else O d
 partial_fixpoint
def QbL:∀x r,ZJ x=O r->match x with|(p0,g,p1,c,e)=>LQ f37 37 [1,1,0,1,0,0] 0 ⟨kp 87 [(0,(QL p0)),(1,(La p1)),(2,(La g)),(7,(QL c)),(8,(Qd e))],[]⟩ (P1 (.exit 0) (λf d=>⟨sl d 87 [(7,(QL f))],[]⟩) r):=by refine ZJ.partial_correctness _ (λZJ QbL x r V=>?_);obtain⟨p0,g,p1,c,e⟩:=x;exact lp<|Qh<|gr 2<|QM Qc.b8 p0<|re 1<|ri V (λV=>Qm<|Qh<|Ql<|ge 3<|Qh<|ge 1<|Ql (kY V (WH _) λ⟨j,k⟩ d V=>Zd<|Qe 4 (QE 9 Qc.b8 V λl V=>Qe 4<|QM Qg g (bi V λm n V=>cp (QgK n)<|Qe 1 (bi V λp n V=>cp (P0 n)<|re 1 ⟨kr,gp<|re 3<|QbL _ _ V _ kr⟩))))) (λV=>QD zf)
def J8:((List Qc)×fJ×fJ)->Option (List Qc)|(p0,p1,d)=>ZJ (p0,d,p1,([]:List Qc),0)>>=λc=>O c
def Qgp{p0 p1 p2 r0}(V:J8 (p0,p1,p2)=O r0):FQ 37 [(.ew<|(Naa Qc.b8) p0),(Lb p1),(Lb p2)] (QL r0):=by unfold J8 at V;exact fp (fn:=f37) rfl<|ge 1<|ge 1<|Qh<|ge 1<|Ql (kY V (QbL _) λc d V=>ge 2<|Qn zf)
def ZR:((List Qc)×(List Qc)×Int×Int×(List Qc)×Int)->Option ((List Qc))|(p0,p1,g,j,d,c)=>if c<(I p0:Int)then idx p0 c>>=λe=>Zo (d,e)>>=λf=>ZR (p0,p1,g,j,f,(W<|c+1))else O d
 partial_fixpoint
def Qb8:∀x r,ZR x=O r->match x with|(p0,p1,g,j,c,e)=>LQ f38 38 [1,1,0,1,0,0] 0 ⟨kp 66 [(0,(QL p0)),(1,(QL p1)),(2,(Qd g)),(3,(Qd j)),(9,(QL c)),(10,(Qd e))],[]⟩ (P1 (.exit 0) (λf d=>⟨sl d 66 [(1,(QL p1)),(2,(Qd g)),(3,(Qd j)),(9,(QL f))],[]⟩) r):=by refine ZR.partial_correctness _ (λZR Qb8 x r V=>?_);obtain⟨p0,p1,g,j,c,e⟩:=x;exact lp<|Qh<|gr 2<|QM Qc.b8 p0<|re 1<|ri V (λV=>Qm<|Qh<|Ql<|gp<|Qe 3 (QE 9 Qc.b8 V λk V=>Qe 1 (bi V λl m V=>cp (P0 m)<|re 1<|gp<|re 3<|Qb8 _ _ V _ kr))) (λV=>QD zf)
def ZS:((List Qc)×Int×Int×(List Qc)×Int)->Option ((List Qc))|(p1,n,p,e,d)=>if d<(I p1:Int)then idx p1 d>>=λc=>idx c.box.lo n>>=λf=>idx c.box.hi n>>=λg=>Yj (c.box,n,(W<|f+p),(W<|g+p))>>=λj=>idx p1 d>>=λk=>YX (k.be,n,(W<|0 - p))>>=λl=>Zo (e,(⟨j,l⟩:Qc))>>=λm=>ZS (p1,n,p,m,(W<|d+1))else O e
 partial_fixpoint
def W5:∀x r,ZS x=O r->match x with|(p1,s,t,c,e)=>LQ f38 38 [1,1,1,0,1,0,0] 0 ⟨kp 66 [(1,(QL p1)),(2,(Qd s)),(3,(Qd t)),(9,(QL c)),(11,(Qd e))],[]⟩ (P1 (.exit 2) (λf d=>⟨sl d 66 [(9,(QL f))],[]⟩) r):=by refine ZS.partial_correctness _ (λZS W5 x r V=>?_);obtain⟨p1,s,t,c,e⟩:=x;exact lp<|Qh<|gr 2<|QM Qc.b8 p1<|re 1<|ri V (λV=>Qm<|Qh<|Ql<|gr 2 (QE 9 Qc.b8 V λj V=>re 4<|Zd<|Qe 6 (QE 1 Qg V λk V=>Qe 6 (QE 1 Qg V λl V=>Qe 3 (bi V λm g V=>cp (V6 g)<|Qe 2 (QE 9 Qc.b8 V λn V=>Qe 5 (bi V λp g V=>cp (Vt g)<|Qe 1 (bi V λq g V=>cp (P0 g)<|re 1 ⟨kr,gp<|re 3<|W5 _ _ V _ kr⟩)))))))) (λV=>QD zf)
def Ur:((List Qc)×(List Qc)×Int×Int)->Option (List Qc)|(p0,p1,e,f)=>ZR (p0,p1,e,f,([]:List Qc),0)>>=λd=>ZS (p1,e,f,d,0)>>=λc=>O c
def Qgx{p0 p1 p2 p3 r0}(V:Ur (p0,p1,p2,p3)=O r0):FQ 38 [(.ew<|(Naa Qc.b8) p0),(.ew<|(Naa Qc.b8) p1),(Qg p2),(Qg p3)] (QL r0):=by unfold Ur at V;exact fp (fn:=f38) rfl<|ge 1<|ge 1<|Qh<|ge 1<|Ql (kY V (Qb8 _) λe d V=>Qh<|ge 1<|Ql (kY V (W5 _) λc d V=>ge 2<|Qn zf))
def Jl:(fJ×Int×(List fJ)×Int×(List fJ)×Int)->Option ((List fJ))|(p0,e,f,g,d,c)=>idx p0 e>>=λj=>if c<j then idx f g>>=λk=>app 8 ([]:fJ) k>>=λl=>app 8 l ([c]:fJ)>>=λm=>app 24 d ([m]:List fJ)>>=λn=>Jl (p0,e,f,g,n,(W<|c+1))else O d
 partial_fixpoint
def W3:∀x r,Jl x=O r->match x with|(p0,n,g,m,c,e)=>LQ f54 54 [1,1,0,1,0,0,1,0,0,1,0,1,0,0,1,0,0,1,0,0] 1 ⟨kp 44 [(0,(La p0)),(3,(Zq g)),(4,(Qd n)),(5,(Wt c)),(6,(Qd m)),(7,(Qd e))],[(.tok 22<|I c)]⟩ (P1 (.exit 4) (λp d=>⟨sl d 44 [(0,(La p0)),(3,(Zq g)),(4,(Qd n)),(5,(Wt p)),(6,(Qd m))],[(.tok 22<|I p)]⟩) r):=by
 refine Jl.partial_correctness _ (λJl W3 x r V=>?_);obtain⟨p0,n,g,m,c,e⟩:=x
 exact lp<|Qh<|gr 3 (QE 1 Qg V λt V=>re 2<|ri V (λV=>Qm<|Qh<|Ql<|gp<|Qe 4 (bi V λf q V=>X9 1 (λl=>fS.ew<|(Naa Qg) l) g m f (es:=(Naa (λl=>fS.ew<|(Naa Qg) l)) g) (d:=(Lb f)) rfl q rfl rfl<|Qe 1 (bi V λj q V=>YA 3 1 8 1 Qg ([]:fJ) f j (xs:=(Naa Qg) ([]:fJ)) (es:=(Naa Qg) f) (L:=(Naa Qg)) yC rfl rfl yC q<|Qe 2 (bi V λk q V=>YA 3 1 8 1 Qg j ([e]:fJ) k (xs:=(Naa Qg) j) (es:=(Naa Qg) ([e]:fJ)) (L:=(Naa Qg)) yC rfl rfl yC q<|Qe 1 (bi V λs q V=>YA 22 1 24 0 (λl=>fS.ew<|(Naa Qg) l) c ([k]:List fJ) s (xs:=(Naa (λl=>fS.ew<|(Naa Qg) l)) c) (es:=(Naa (λl=>fS.ew<|(Naa Qg) l)) ([k]:List fJ)) (L:=(Naa (λl=>fS.ew<|(Naa Qg) l))) yC rfl rfl yC q<|re 1<|gp<|re 3<|W3 _ _ V _ kr))))) (λV=>QD zf))
def XN:((List fJ)×fJ×Int×(List fJ)×Int)->Option ((List fJ))|(c,p0,e,f,d)=>if d<(I c:Int)then Jl (p0,e,c,d,f,0)>>=λg=>XN (c,p0,e,g,(W<|d+1))else O f
 partial_fixpoint
def QeE:∀x r,XN x=O r->match x with|(c,p0,e,f,j)=>LQ f54 54 [1,1,0,1,0,0,1,0,0,1,0,1,0,0] 1 ⟨kp 44 [(0,(La p0)),(3,(Zq c)),(4,(Qd e)),(5,(Wt f)),(6,(Qd j))],[(.tok 22<|I f)]⟩ (P1 (.exit 2) (λg d=>⟨sl d 44 [(0,(La p0)),(4,(Qd e)),(5,(Wt g))],[(.tok 22<|I g)]⟩) r):=by refine XN.partial_correctness _ (λXN QeE x r V=>?_);obtain⟨c,p0,e,f,j⟩:=x;exact lp<|Qh<|gr 2<|Ff (λl=>fS.ew<|(Naa Qg) l) c (es:=(Naa (λl=>fS.ew<|(Naa Qg) l)) c) rfl<|re 1<|ri V (λV=>Qm<|Qh<|Ql<|ge 1<|Ql (kY V (W3 _) λk d V=>gp<|re 3<|QeE _ _ V _ kr)) (λV=>QD zf)
def XM:(fJ×(List fJ)×Int)->Option ((List fJ))|(p0,d,c)=>if c<(I p0:Int)then XN (d,p0,c,([]:List fJ),0)>>=λe=>XM (p0,e,(W<|c+1))else O d
 partial_fixpoint
def QeD:∀x r,XM x=O r->match x with|(p0,c,e)=>LQ f54 54 [1,1,0,1,0,0] 0 ⟨kp 44 [(0,(La p0)),(3,(Zq c)),(4,(Qd e))],[]⟩ (P1 (.exit 0) (λf d=>⟨sl d 44 [(3,(Zq f))],[]⟩) r):=by refine XM.partial_correctness _ (λXM QeD x r V=>?_);obtain⟨p0,c,e⟩:=x;exact lp<|Qh<|gr 2<|QM Qg p0<|re 1<|ri V (λV=>Qm<|Qh<|Ql<|ge 1<|Qh<|ge 1<|Ql (kY V (QeE _) λg d V=>gp<|re 2<|gp<|re 3<|QeD _ _ V _ kr)) (λV=>QD zf)
def ZZ:fJ->Option (List fJ)|p0=>XM (p0,([([]:fJ)]:List fJ),0)>>=λc=>O c
def Vv{p0 r0}(V:ZZ p0=O r0):FQ 54 [(Lb p0)] (Zq r0):=by unfold ZZ at V;exact fp (fn:=f54) rfl<|ge 1<|ge 3<|Qh<|ge 1<|Ql (kY V (QeD _) λc d V=>ge 2<|Qn zf)
def Jm:(fJ×Qk×Int)->Option (Unit⊕ Unit)|(p1,p0,c)=>if c<(I p1:Int)then(idx p1 c>>=λd=>idx p0.lo c>>=λe=>if d<e then O J else idx p1 c>>=λf=>idx p0.hi c>>=λg=>O<|decide<|f>=g)>>=λ(j:Bool)=>if j=J then O (Naf ())else Jm (p1,p0,(W<|c+1))else O (Nag ())
 partial_fixpoint
def QeH:∀x r,Jm x=O r->match x with|(p1,p0,c)=>LQ f93 93 [1,1,0,1,0,0] 1 ⟨kp 40 [(1,(La p1)),(2,(.ptr 0 0)),(5,(Qd c))],[(Qz p0.lo p0.hi)]⟩ (P2 .ret (λ_ d=>⟨sl d 40 [(4,(Qp U))],[(Qz p0.lo p0.hi)]⟩) (.exit 0) (λ_ d=>⟨sl d 40 [],[(Qz p0.lo p0.hi)]⟩) r):=by refine Jm.partial_correctness _ (λJm QeH x r V=>?_);obtain⟨p1,p0,c⟩:=x;exact lp<|Qh<|gr 2<|QM Qg p1<|re 1<|ri V (λV=>Qm<|Qh<|Ql<|Qh (bi V λe l V=>Zm (λd=>⟨sl d 40 [(1,(La p1)),(2,(.ptr 0 0)),(5,(Qd c)),(39,(Qp e))],[(Qz p0.lo p0.hi)]⟩) (have V:=l;Zd (Qe 2 (QE 1 Qg V λf V=>Qe 4 (QE 1 Qg V λg V=>Qe 3<|gs 28 V (λV=>re 11 ⟨kr,zf⟩) (λV=>Qe 2 (QE 1 Qg V λj V=>Qe 4 (QE 1 Qg V λk V=>re 3 ⟨kr,zf⟩))))))) (λd=>lf V (λV=>ge 1<|Qn zf) (λV=>Qm<|gp<|re 3<|QeH _ _ V _ kr)))) (λV=>QD zf)
def Rm:(Qk×fJ)->Option Bool|(p0,p1)=>if(I p1:Int)≠(I p0.lo:Int)then O U else(Jm (p1,p0,0)>>=λ|.inl _=>O U|.inr _=>O J)
def QgD{p0 p1 r0}(V:Rm (p0,p1)=O r0):FQ 93 [(Qk.b8 p0),(Lb p1)] (Qp r0):=by unfold Rm at V;exact fp (fn:=f93) rfl<|ge 2<|Qh<|gr 1<|QM Qg p1<|Qe 2<|QM Qg p0.lo<|re 1<|zz V (λV=>ge 1<|Qn zf) (λV=>Qm<|Qh<|ge 1<|Ql (pG V (QeH _) (λ_ d V=>zf) λ_ d V=>ge 1<|Qn zf))
def XO:(fJ×fJ×Int×Int)->Option Int|(p0,p1,d,c)=>(if c<(I p0:Int)then O (decide<|c<(I p1:Int))else O U)>>=λ(e:Bool)=>if e=J then idx p0 c>>=λf=>idx p1 c>>=λg=>XO (p0,p1,(W<|d+(W<|f*g)),(W<|c+1))else O d
 partial_fixpoint
def QeG:∀x r,XO x=O r->match x with|(p0,p1,c,e)=>LQ f142 142 [1,1,0,1,0,0] 0 ⟨kp 31 [(0,(La p0)),(1,(La p1)),(5,(Qd c)),(6,(Qd e))],[]⟩ (P1 (.exit 0) (λf d=>⟨sl d 31 [(5,(Qd f))],[]⟩) r):=by refine XO.partial_correctness _ (λXO QeG x r V=>?_);obtain⟨p0,p1,c,e⟩:=x;exact lp<|Qh<|Qh (bi V λg l V=>Zm (λd=>⟨sl d 31 [(0,(La p0)),(1,(La p1)),(5,(Qd c)),(6,(Qd e)),(16,(Qp g))],[]⟩) (have V:=l;gp (Qe 2<|QM Qg p0<|Qe 2<|gs 11 V (λV=>Qe 2<|QM Qg p1<|re 2 zf) (λV=>re 5 zf))) (λd=>lf V (λV=>Qm<|Qh<|Ql<|Zd<|Qe 3 (QE 1 Qg V λj V=>Qe 3 (QE 1 Qg V λk V=>re 4 ⟨kr,gp<|re 3<|QeG _ _ V _ kr⟩))) (λV=>QD zf)))
def T4:(fJ×fJ)->Option Int|(p0,p1)=>XO (p0,p1,0,0)>>=λc=>O c
def QhV{p0 p1 r0}(V:T4 (p0,p1)=O r0):FQ 142 [(Lb p0),(Lb p1)] (Qd r0):=by unfold T4 at V;exact fp (fn:=f142) rfl<|ge 1<|ge 1<|Qh<|ge 1<|Ql (kY V (QeG _) λc d V=>ge 2<|Qn zf)
def X7:(Qt×fJ)->Option (Int×Bool)|(p0,p1)=>T4 (p0.bm,p1)>>=λc=>if p0.bx=1 then O (0,U)else if p0.bx=2 then O ((W<|p0.ek+c),J)else pz (W<|p0.ed+c) p0.ep>>=λv2=>(if v2<0 then O (W<|v2+p0.ep)else O v2)>>=λ(d:Int)=>O ((W<|p0.ek+(W<|p0.dk*d)),J)
def Qh2{p0 p1 r0 r1}(V:X7 (p0,p1)=O (r0,r1)):FQ 103 [(Qt.b8 p0),(Lb p1)] (.fz [(Qd r0),(Qp r1)]):=by unfold X7 at V;exact fp (fn:=f103) rfl<|ge 3<|gr 3 (bi V λe c V=>cp (QhV c)<|re 1<|Qh<|ge 3<|mQ V (λV=>ge 2<|Qn zf) (λV=>Qm<|Qh<|ge 3<|mQ V (λV=>ge 6<|Qn zf) (λV=>Qm<|gr 6 (bi V λv2 c V=>QA rfl (λ_=>OH (a:=(W<|p0.ed+e)) (b:=p0.ep) c rfl kr kr)<|re 1<|Qh<|ge 2 (bi V λf g V=>Zm (λd=>⟨sl d 42 [(2,(.ptr 0 0)),(7,(Qd f))],[(QB p0.bx p0.bc p0.ek p0.bm p0.ed p0.dk p0.ep)]⟩) (have V:=g;ri V (λV=>gp<|re 5 zf) (λV=>Qm zf)) (λd=>ge 9<|Qn zf))))))
def Xe:((List Qc)×fJ×Int)->Option ((Bool×Int×Int)⊕ Unit)|(p0,p1,c)=>if c<(I p0:Int)then idx p0 c>>=λd=>Rm (d.box,p1)>>=λe=>if e=J then idx p0 c>>=λf=>X7 (f.be,p1)>>=λ(g,j)=>if j=U then O (Naf (J,0,0))else idx p0 c>>=λk=>O (Naf (U,k.be.bc,g))else Xe (p0,p1,(W<|c+1))else O (Nag ())
 partial_fixpoint
def Qc9:∀x r,Xe x=O r->match x with|(p0,p1,c)=>LQ f55 55 [1,0,1,0,0] 1 ⟨kp 44 [(0,(QL p0)),(1,(La p1)),(4,(.ptr 0 0)),(6,(Qd c))],[(.box [(Qp U),(Qd 0),(Qd 0)])]⟩ (P2 .ret (λ(e,f,g) d=>⟨sl d 44 [(4,(.ptr 0 0)),(5,(Qp J))],[(.box [(Qp e),(Qd f),(Qd g)])]⟩) (.exit 0) (λ_ d=>⟨sl d 44 [(4,(.ptr 0 0))],[(.box [(Qp U),(Qd 0),(Qd 0)])]⟩) r):=by refine Xe.partial_correctness _ (λXe Qc9 x r V=>?_);obtain⟨p0,p1,c⟩:=x;exact lp<|Qh<|gr 2<|QM Qc.b8 p0<|re 1<|ri V (λV=>Qm<|Qh<|Ql<|gr 2 (QE 9 Qc.b8 V λk V=>Qe 3 (bi V λl j V=>cp (QgD j)<|Q6<|lf V (λV=>gr 2 (QE 9 Qc.b8 V λm V=>Qe 3 (sB V λn p j V=>cp (Qh2 j)<|re 5<|Qh<|ge 2<|zb V (λV=>ge 3<|Qn zf) (λV=>Qm<|gr 2 (QE 9 Qc.b8 V λq V=>re 7<|Qn zf))))) (λV=>Qm<|gp<|re 3<|Qc9 _ _ V _ kr)))) (λV=>QD zf)
def TX:((List Qc)×fJ)->Option (Qi×Bool)|(p0,p1)=>(Xe (p0,p1,0)>>=λ|.inl (c,d,e)=>O ((⟨c,d,e⟩:Qi),J)|.inr _=>O ((⟨U,0,0⟩:Qi),U))
def Qg6{p0 p1 r0 r1}(V:TX (p0,p1)=O (r0,r1)):FQ 55 [(.ew<|(Naa Qc.b8) p0),(Lb p1)] (.fz [(.b7<|Qi.b8 r0),(Qp r1)]):=by unfold TX at V;exact fp (fn:=f55) rfl<|ge 2<|Qh<|ge 1<|Ql (pG V (Qc9 _) (λ⟨c,e,f⟩ d V=>zf) λ_ d V=>ge 3<|Qn zf)
def Z9:((List fJ)×(List Qc)×(List Qi)×Int)->Option ((List Qi))|(j,p1,d,c)=>if c<(I j:Int)then idx j c>>=λe=>TX (p1,e)>>=λ(f,k)=>app 24 d ([f]:List Qi)>>=λg=>Z9 (j,p1,g,(W<|c+1))else O d
 partial_fixpoint
def WJ:∀x r,Z9 x=O r->match x with|(k,p1,c,e)=>LQ f16 16 [1,1,1,0,1,0,0] 1 ⟨kp 32 [(1,(QL p1)),(5,(.vec 0<|(Naa Qi.b8) c)),(6,(Zq k)),(7,(Qd e))],[(.tok 45<|I c)]⟩ (P1 (.exit 0) (λf d=>⟨sl d 32 [(5,(.vec 0<|(Naa Qi.b8) f))],[(.tok 45<|I f)]⟩) r):=by refine Z9.partial_correctness _ (λZ9 WJ x r V=>?_);obtain⟨k,p1,c,e⟩:=x;exact lp<|Qh<|gr 2<|Ff (λl=>fS.ew<|(Naa Qg) l) k (es:=(Naa (λl=>fS.ew<|(Naa Qg) l)) k) rfl<|re 1<|ri V (λV=>Qm<|Qh<|Ql<|gr 3 (bi V λg m V=>X9 1 (λl=>fS.ew<|(Naa Qg) l) k e g (es:=(Naa (λl=>fS.ew<|(Naa Qg) l)) k) (d:=(Lb g)) rfl m rfl rfl<|Qe 1 (sB V λj p m V=>cp (Qg6 m)<|re 6<|gp<|Qe 3 (bi V λn m V=>YA 45 3 24 0 Qi.b8 c ([j]:List Qi) n (xs:=(Naa Qi.b8) c) (es:=(Naa Qi.b8) ([j]:List Qi)) (L:=(Naa Qi.b8)) yC rfl rfl Qi.fit m<|re 1<|gp<|re 3<|WJ _ _ V _ kr)))) (λV=>QD zf)
def XW:(fJ×(List Qc))->Option (List Qi)|(p0,p1)=>ZZ p0>>=λd=>Z9 (d,p1,([]:List Qi),0)>>=λc=>O c
def Qfl{p0 p1 r0}(V:XW (p0,p1)=O r0):FQ 16 [(Lb p0),(.ew<|(Naa Qc.b8) p1)] (Jy r0):=by unfold XW at V;exact fp (fn:=f16) rfl<|ge 1<|ge 1<|gr 1 (bi V λf e V=>cp (Vv e)<|re 1<|Qh<|ge 1<|Ql (kY V (WJ _) λc d V=>ge 2<|Qn zf))
def Yb:((List Qi)×Int)->Option (Unit⊕ Unit)|(p0,c)=>if c<(I p0:Int)then(idx p0 c>>=λd=>idx p0 0>>=λe=>(if(d.fill !=e.fill)=J then O J else idx p0 c>>=λf=>idx p0 0>>=λg=>O<|f.bc !=g.bc)>>=λ(j:Bool)=>if j=J then O J else idx p0 c>>=λk=>idx p0 (W<|c - 1)>>=λl=>idx p0 1>>=λm=>idx p0 0>>=λn=>O<|(W<|k.offset - l.offset) !=(W<|m.offset - n.offset))>>=λ(p:Bool)=>if p=J then O (Naf ())else Yb (p0,(W<|c+1))else O (Nag ())
 partial_fixpoint
def WM:∀x r,Yb x=O r->match x with|(p0,c)=>LQ f91 91 [1,0,1,0,0] 0 ⟨kp 56 [(0,(Jy p0)),(3,(Qd c))],[]⟩ (P2 .ret (λ_ d=>⟨sl d 56 [(2,(Qp U))],[]⟩) (.exit 0) (λ_ d=>⟨sl d 56 [],[]⟩) r):=by
 refine Yb.partial_correctness _ (λYb WM x r V=>?_);obtain⟨p0,c⟩:=x
 exact lp<|Qh<|gr 2<|QM Qi.b8 p0<|re 1<|ri V (λV=>Qm<|Qh<|Ql<|Qh (bi V λe l V=>Zm (λd=>⟨sl d 56 [(0,(Jy p0)),(3,(Qd c)),(55,(Qp e))],[]⟩) (have V:=l;Pj (Qe 2 (QE 3 Qi.b8 V λf V=>Qe 3 (QE 3 Qi.b8 V λg V=>Qe 2<|QA rfl (λ_=>QiT (a:=f.fill) (b:=g.fill) kr rfl kr kr)<|Qe 1 (bi V λk l V=>ZF (j:=22) (λd=>⟨sl d 56 [(0,(Jy p0)),(3,(Qd c)),(31,(Qp k))],[]⟩) (λd=>Qe 1<|lJ 32 V (λV=>re 23 ⟨kr,zf⟩) (λV=>Qe 2 (QE 3 Qi.b8 V λm V=>Qe 5 (QE 3 Qi.b8 V λn V=>Qe 4 (QE 3 Qi.b8 V λp V=>Qe 3 (QE 3 Qi.b8 V λq V=>re 5 ⟨kr,zf⟩)))))) (λhJ=>lJ 20 l (λV=>Qe 11 zf) (λV=>Qe 2 (QE 3 Qi.b8 V λs V=>Qe 3 (QE 3 Qi.b8 V λt V=>Qe 4 zf))))))))) (λd=>lf V (λV=>ge 1<|Qn zf) (λV=>Qm<|gp<|re 3<|WM _ _ V _ kr)))) (λV=>QD zf)
def UW:(List Qi)->Option Bool|p0=>(Yb (p0,1)>>=λ|.inl _=>O U|.inr _=>O J)
def QgM{p0 r0}(V:UW p0=O r0):FQ 91 [(.ew<|(Naa Qi.b8) p0)] (Qp r0):=by unfold UW at V;exact fp (fn:=f91) rfl<|ge 1<|Qh<|ge 1<|Ql (pG V (WM _) (λ_ d V=>zf) λ_ d V=>ge 1<|Qn zf)
def Jd:(Int×(List Qi)×(List Qq)×Int)->Option Int|(c,p0,j,d)=>(if(W<|c+d)<(I p0:Int)then sub p0 c (W<|(W<|c+d)+1)>>=λe=>UW e>>=λf=>O f else O U)>>=λ(g:Bool)=>if g=J then Jd (c,p0,j,(W<|d+1))else O d
 partial_fixpoint
def W9:∀x r,Jd x=O r->match x with|(c,p0,e,f)=>LQ f40 40 [1,1,0,1,0,0,1,0,1,0,0,0] 1 ⟨kp 80 [(0,(Jy p0)),(3,(RT e)),(4,(Qd c)),(5,(Qd f))],[(.tok 126<|I e)]⟩ (P1 (.exit 2) (λg d=>⟨sl d 80 [(0,(Jy p0)),(3,(RT e)),(4,(Qd c)),(5,(Qd g))],[(.tok 126<|I e)]⟩) r):=by refine Jd.partial_correctness _ (λJd W9 x r V=>?_);obtain⟨c,p0,e,f⟩:=x;exact lp<|Qh<|Qh (bi V λj n V=>Zm (λd=>⟨sl d 80 [(0,(Jy p0)),(3,(RT e)),(4,(Qd c)),(5,(Qd f)),(26,(Qp j))],[(.tok 126<|I e)]⟩) (have V:=n;gp (Qe 4<|QM Qi.b8 p0<|Qe 2<|gs 17 V (λV=>Qe 6 (bi V λk l V=>Uf 3 Qi.b8 p0 k c (W<|(W<|c+f)+1) (es:=(Naa Qi.b8) p0) (L:=(Naa Qi.b8)) (a:=vX c) (b:=vX (W<|(W<|c+f)+1)) yC rfl (λ_=>by first|rfl|exact oy<|Qi.fit _) l rfl (Or.inl rfl) (bi V λm l V=>cp (QgM l)<|re 1 zf))) (λV=>re 9 zf))) (λd=>lf V (λV=>Qm<|Ql<|gp<|re 3<|W9 _ _ V _ kr) (λV=>QD zf)))
def Jc:((List Qi)×(List Qq)×Int)->Option ((List Qq))|(p0,f,c)=>if c<(I p0:Int)then Jd (c,p0,f,1)>>=λd=>idx p0 c>>=λe=>(if e.fill=U then idx p0 c>>=λg=>idx p0 c>>=λj=>O (g.bc,j.offset)else O ((0:Int),(0:Int)))>>=λ((k,l):(Int×Int))=>(if e.fill=U then O (decide<|d>1)else O U)>>=λ(m:Bool)=>(if m=J then idx p0 (W<|c+1)>>=λn=>idx p0 c>>=λp=>O (W<|n.offset - p.offset)else O 0)>>=λ(q:Int)=>app 48 f ([(⟨c,d,e.fill,k,l,q⟩:Qq)]:List Qq)>>=λr=>Jc (p0,r,(W<|c+d))else O f
 partial_fixpoint
def QeT:∀x r,Jc x=O r->match x with|(p0,c,f)=>LQ f40 40 [1,1,0,1,0,0] 1 ⟨kp 80 [(0,(Jy p0)),(3,(RT c)),(4,(Qd f))],[(.tok 126<|I c)]⟩ (P1 (.exit 0) (λm d=>⟨sl d 80 [(3,(RT m))],[(.tok 126<|I m)]⟩) r):=by
 refine Jc.partial_correctness _ (λJc QeT x r V=>?_);obtain⟨p0,c,f⟩:=x
 exact lp<|Qh<|gr 2<|QM Qi.b8 p0<|re 1<|ri V (λV=>Qm<|Ql<|ge 1<|Qh<|Ql (kY V (W9 _) λe d V=>gr 4 (QE 3 Qi.b8 V λg V=>re 5<|Qh<|ge 3 (sB V λj k q V=>Zm (λd=>⟨sl d 80 [(0,(Jy p0)),(3,(RT c)),(4,(Qd f)),(5,(Qd e)),(6,(.ptr 1 0))],[(.tok 126<|I c),(.box [(Qd f),(Qd e),(Qp g.fill),(Qd j),(Qd k),(Qd 0)])]⟩) (have V:=q;zb V (λV=>gr 2 (QE 3 Qi.b8 V λs V=>re 4<|gp<|Qe 2 (QE 3 Qi.b8 V λt V=>re 4 zf))) (λV=>Qm zf)) (λd=>Qh<|Qh (bi V λn q V=>Zm (λd=>⟨sl d 80 [(0,(Jy p0)),(3,(RT c)),(4,(Qd f)),(5,(Qd e)),(6,(.ptr 1 0)),(58,(Qp n))],[(.tok 126<|I c),(.box [(Qd f),(Qd e),(Qp g.fill),(Qd j),(Qd k),(Qd 0)])]⟩) (have V:=q;gp (Qe 4<|RH 55 V (λV=>re 3 zf) (λV=>re 3 zf))) (λd=>bi V λl q V=>Zm (λd=>⟨sl d 80 [(0,(Jy p0)),(3,(RT c)),(4,(Qd f)),(5,(Qd e)),(6,(.ptr 1 0))],[(.tok 126<|I c),(Mb f e g.fill j k l)]⟩) (have V:=q;lf V (λV=>Zd<|Qe 3 (QE 3 Qi.b8 V λu V=>Qe 4 (QE 3 Qi.b8 V λv V=>re 5 ⟨kr,zf⟩))) (λV=>Qm zf)) (λd=>gr 3 (bi V λp w V=>YA 126 6 48 0 Qq.b8 c ([(⟨f,e,g.fill,j,k,l⟩:Qq)]:List Qq) p (xs:=(Naa Qq.b8) c) (es:=(Naa Qq.b8) ([(⟨f,e,g.fill,j,k,l⟩:Qq)]:List Qq)) (L:=(Naa Qq.b8)) yC rfl rfl Qq.fit w<|re 1<|gp<|re 4<|QeT _ _ V _ kr))))))))) (λV=>QD zf)
def Tw:(List Qi)->Option (List Qq)|p0=>Jc (p0,([]:List Qq),0)>>=λc=>O c
def Qh3{p0 r0}(V:Tw p0=O r0):FQ 40 [(.ew<|(Naa Qi.b8) p0)] (KL r0):=by unfold Tw at V;exact fp (fn:=f40) rfl<|ge 1<|ge 1<|Qh<|ge 1<|Ql (kY V (QeT _) λc d V=>ge 2<|Qn zf)
def Yt:((List Qq)×Int×Int)->Option Int|(p0,d,c)=>if c<(I p0:Int)then idx p0 c>>=λe=>Yt (p0,(W<|d+e.len),(W<|c+1))else O d
 partial_fixpoint
def QdB:∀x r,Yt x=O r->match x with|(p0,c,e)=>LQ f87 87 [1,1,0,1,0,0] 0 ⟨kp 19 [(0,(KL p0)),(3,(Qd c)),(4,(Qd e))],[]⟩ (P1 (.exit 0) (λf d=>⟨sl d 19 [(3,(Qd f))],[]⟩) r):=by refine Yt.partial_correctness _ (λYt QdB x r V=>?_);obtain⟨p0,c,e⟩:=x;exact lp<|Qh<|gr 2<|QM Qq.b8 p0<|re 1<|ri V (λV=>Qm<|Qh<|Ql<|gp<|Qe 3 (QE 6 Qq.b8 V λg V=>re 4<|gp<|re 3<|QdB _ _ V _ kr)) (λV=>QD zf)
def S4:(List Qq)->Option Int|p0=>Yt (p0,0,0)>>=λc=>O c
def Qhp{p0 r0}(V:S4 p0=O r0):FQ 87 [(.ew<|(Naa Qq.b8) p0)] (Qd r0):=by unfold S4 at V;exact fp (fn:=f87) rfl<|ge 1<|ge 1<|Qh<|ge 1<|Ql (kY V (QdB _) λc d V=>ge 2<|Qn zf)
def T8:(fJ×Qt)->Option (List Qc)|(p0,p1)=>kj 8 (I p0:Int) 0>>=λc=>O ([(⟨(⟨c,p0⟩:Qk),p1⟩:Qc)]:List Qc)
def QfW{p0 p1 r0}(V:T8 (p0,p1)=O r0):FQ 88 [(Lb p0),(Qt.b8 p1)] (QL r0):=by unfold T8 at V;exact fp (fn:=f88) rfl<|ge 2<|Qh<|Zd<|Qe 1<|QM Qg p0 (bi V λc d V=>QA (v:=.b7 (.ew<|Naa Qg c)) rfl (by intro K f;exact Qh8 Qg (z:=0) (n:=(I p0:Int)) (bytes:=8) (j:=8000) (e':=3) (os:=[]) d (e:=3) kr kr kr kr rfl rfl kr kr kr f)<|re 6 ⟨kr,Qn zf⟩)
def Zv:(fJ×Nat×fJ×Int×Int×Int)->Option Int|(q0,g,j,k,c,d)=>(if d<(I q0:Int)then O (decide<|c>0)else O U)>>=λ(e:Bool)=>if e=J then idx q0 d>>=λf=>Zv (q0,g,j,k,(W<|c*f),(W<|d+1))else O c
 partial_fixpoint
def WX:∀x r,Zv x=O r->match x with|(q0,e,c,f,g,j)=>LQ f126 126 [1,1,1,0,1,0,0,1,0,0,1,1,0,1,0,0] 1 ⟨kp 42 [(0,(La q0)),(3,(.ms 0 e 0 (I c)<|I c)),(4,(Qd f)),(5,(Qd g)),(6,(Qd j))],[(ZU e c)]⟩ (P1 (.exit 2) (λk d=>⟨sl d 42 [(0,(La q0)),(3,(.ms 0 e 0 (I c)<|I c)),(4,(Qd f)),(5,(Qd k))],[(ZU e c)]⟩) r):=by refine Zv.partial_correctness _ (λZv WX x r V=>?_);obtain⟨q0,e,c,f,g,j⟩:=x;exact lp<|Qh<|Qh (bi V λl n V=>Zm (λd=>⟨sl d 42 [(0,(La q0)),(3,(.ms 0 e 0 (I c)<|I c)),(4,(Qd f)),(5,(Qd g)),(6,(Qd j)),(28,(Qp l))],[(ZU e c)]⟩) (have V:=n;gp (Qe 2<|QM Qg q0<|Qe 2<|gs 25 V (λV=>re 3 zf) (λV=>re 3 zf))) (λd=>lf V (λV=>Qm<|Qh<|Ql<|gp<|Qe 3 (QE 1 Qg V λm V=>re 3<|gp<|re 3<|WX _ _ V _<|fZ [(ZU e c)] (λ_=>(fR (gj Qg _ _ _ _ _) gD)) rfl)) (λV=>QD zf)))
def Zl:(fJ×Nat×fJ×Int)->Option ((Nat×fJ))|(q0,d,e,c)=>if c<(I q0:Int)then Yn q0>>=λj=>(if j=0 then O 0 else O 1)>>=λ(k:Int)=>Zv (q0,d,e,c,k,(W<|c+1))>>=λf=>app 8 e ([f]:fJ)>>=λg=>Zl (q0,(gb d ([f]:fJ).isEmpty),g,(W<|c+1))else O (d,e)
 partial_fixpoint
def Qao:∀x r,Zl x=O r->match x with|(q0,c,f,n)=>LQ f126 126 [1,1,1,0,1,0,0] 1 ⟨kp 42 [(0,(La q0)),(3,(.ms 0 c 0 (I f)<|I f)),(4,(Qd n))],[(ZU c f)]⟩ (P1 (.exit 0) (λ(q,p) d=>⟨sl d 42 [(3,(.ms 0 q 0 (I p)<|I p))],[(ZU q p)]⟩) r):=by
 refine Zl.partial_correctness _ (λZl Qao x r V=>?_);obtain⟨q0,c,f,n⟩:=x
 exact lp<|Qh<|gr 2<|QM Qg q0<|re 1<|ri V (λV=>Qm<|Qh<|Ql<|ge 1<|Qh<|gr 1 (bi V λu t V=>cp (TV t)<|re 1 (bi V λs w V=>Zm (λd=>⟨sl d 42 [(0,(La q0)),(3,(.ms 0 c 0 (I f)<|I f)),(4,(Qd n)),(5,(Qd s))],[(ZU c f)]⟩) (have V:=w;mQ V (λV=>gp<|re 1 zf) (λV=>Qm zf)) (λd=>Qh<|ge 3<|Ql<|kY V (WX _) (λj d V=>gp<|Qe 3 (bi V λk t V=>Zb (v:=.ms 0 (gb c ([j]:fJ).isEmpty) 0 (I k) (I k)) (λH=>H.set 0<|V8 c j k) rfl kr (λ_ y=>TQ Qg (l:=f) (es:=([j]:fJ)) (bytes:=8) (e:=3) (tt:=0) (g:=c) (m:=I f) t yC kr kr kr kr rfl rfl kr rfl kr kr y)<|re 1<|gp<|re 3<|Qao _ _ V _<|fZ [(V8 c j k)] (λ_=>(fR (gj Qg _ _ _ _ _) gD)) rfl)) (hst:=(fZ [(ZU c f)] (λ_=>(fR (gj Qg _ _ _ _ _) gD)) rfl)))))) (λV=>QD zf)
def X2:fJ->Option ((Nat×fJ))|q0=>Ja q0>>=λe=>if e≠0 then O (0,([]:fJ))else Zl (q0,0,([]:fJ),0)>>=λ(c,d)=>O (c,d)
def Qfq{q0 v5001 v5002}(V:X2 q0=O (v5001,v5002)):PC prog env 126 [(La q0)] [] (.ms 0 v5001 0 (I v5002)<|I v5002) [(ZU v5001 v5002)]:=by unfold X2 at V;exact gY (fn:=f126) rfl<|ge 1<|Qh<|gr 1 (bi V λg f V=>cp (UA f)<|re 1<|zz V (λV=>ge 1<|Qn zf) (λV=>Qm<|ge 1<|Qh<|ge 1<|Ql<|kY V (Qao _) (λ⟨c,e⟩ d V=>ge 2<|Qn zf) (hst:=(fZ [TH] (λ_=>(fR (gj Qg _ _ _ _ _) gD)) rfl))))
def YP:(fJ×Int×fJ×Int)->Option (fJ)|(v2,p1,c,d)=>if d<(I v2:Int)then QN (I c=I v2)>>=λ_=>idx c d>>=λg=>idx c d>>=λe=>QN (I c=I v2)>>=λ_=>idx c d>>=λj=>iM c d (W<|e*p1)>>=λf=>YP (v2,p1,f,(W<|d+1))else O c
 partial_fixpoint
def Qdg:∀x r,YP x=O r->match x with|(v2,p1,f,c)=>LQ f89 89 [1,1,0,1,0,0] 1 ⟨kp 25 [(1,(Qd p1)),(5,(.ms 0 1 0 (I v2)<|I v2)),(6,(Qd c))],[(QI f)]⟩ (P1 (.exit 0) (λu d=>⟨sl d 25 [(5,(.ms 0 1 0 (I v2)<|I v2))],[(QI u)]⟩) r):=by
 refine YP.partial_correctness _ (λYP Qdg x r V=>?_);obtain⟨v2,p1,f,c⟩:=x
 exact lp<|Qh<|gr 2<|Qe 1<|re 1<|ri V (λV=>Qm<|Qh<|Ql<|gp<|Qe 4 (gi V λs V=>bi V λw m V=>QA rfl (λ_=>QR (e:=3) (n:=c) (j:=(c).toNat) (tt:=0) (g:=1) (lo:=0) (len:=I v2) (cap:=I v2) (k:=.i64) kr kr rfl kr kr (gw m)<|zB (gJ m) s) (bi V λp m V=>QA rfl (λ_=>Ye (tt:=0) (g:=1) (j:=(0+(c).toNat)) (e:=3) (cs:=cellsOf Qg f) (v:=.b7 (Qg p)) kr kr rfl kr (Zt kr)<|gM Qg m)<|Qe 2 (gi V λt V=>bi V λz m V=>QA rfl (λ_=>QR (e:=3) (n:=c) (j:=(c).toNat) (tt:=0) (g:=1) (lo:=0) (len:=I v2) (cap:=I v2) (k:=.i64) kr kr rfl kr kr (gw m)<|zB (gJ m) t) (bi V λq m V=>Zb (λH=>H.set 0<|QI q) rfl kr (λ_=>Js Qg (l:=f) (n:=c) (y:=(W<|p*p1)) m yC kr rfl kr kr kr kr)<|Q6<|gp<|re 3<|Qdg _ _ V _<|fZ [(QI q)] (λ_=>(fR (gj Qg _ _ _ _ _) gD)) rfl))))) (λV=>QD zf)
def TP:(fJ×Int)->Option fJ|(p0,p1)=>X2 p0>>=λ(d,v2)=>YP (v2,p1,v2,0)>>=λc=>QN (I c=I v2)>>=λ_=>O c
def QfK{p0 p1 r0}(V:TP (p0,p1)=O r0):FQ 89 [(Lb p0),(Qg p1)] (La r0):=by unfold TP at V;exact fp (fn:=f89) rfl<|ge 1<|gr 1 (sB V λj v2 g V=>go 0 3 Qg (ds:=[(Lb p0)]) (Qfq g)<|re 1<|Qh<|ge 1<|Ql<|kY V (Qdg _) (λf d V=>ge 2<|Qn (gi V λc V=>(by obtain rfl:=vz V;exact⟨trivial,Ym [(.ms 0 1 0 (I v2)<|I v2)] kr<|Nh<|jx (e:=3) Qg f c yC kr⟩))) (hst:=(fZ [(QI v2)] (λ_=>(fR (gj Qg _ _ _ _ _) gD)) rfl)))
def XY:((List Qq)×Int×Int)->Option (Int⊕ Unit)|(p0,p1,c)=>if c<(I p0:Int)then(idx p0 c>>=λd=>if p1>=d.er then idx p0 c>>=λe=>idx p0 c>>=λf=>O (decide<|p1<(W<|e.er+f.len))else O U)>>=λ(g:Bool)=>if g=J then O (Naf c)else XY (p0,p1,(W<|c+1))else O (Nag ())
 partial_fixpoint
def Qea:∀x r,XY x=O r->match x with|(p0,p1,c)=>LQ f90 90 [1,0,1,0,0] 0 ⟨kp 35 [(0,(KL p0)),(1,(Qd p1)),(5,(Qd c))],[]⟩ (P2 .ret (λe d=>⟨sl d 35 [(4,(Qd e))],[]⟩) (.exit 0) (λ_ d=>⟨sl d 35 [],[]⟩) r):=by refine XY.partial_correctness _ (λXY Qea x r V=>?_);obtain⟨p0,p1,c⟩:=x;exact lp<|Qh<|gr 2<|QM Qq.b8 p0<|re 1<|ri V (λV=>Qm<|Qh<|Ql<|Qh (bi V λf l V=>Zm (λd=>⟨sl d 35 [(0,(KL p0)),(1,(Qd p1)),(5,(Qd c)),(33,(Qp f))],[]⟩) (have V:=l;Zd (Qe 3 (QE 6 Qq.b8 V λg V=>Qe 4<|gs 19 V (λV=>Qe 3 (QE 6 Qq.b8 V λj V=>Qe 4 (QE 6 Qq.b8 V λk V=>re 5 ⟨kr,zf⟩))) (λV=>re 14 ⟨kr,zf⟩)))) (λd=>lf V (λV=>ge 2<|Qn zf) (λV=>Qm<|gp<|re 3<|Qea _ _ V _ kr)))) (λV=>QD zf)
def Ri:((List Qq)×Int)->Option Int|(p0,p1)=>(XY (p0,p1,0)>>=λ|.inl c=>O c|.inr _=>O (-1))
def Qgr{p0 p1 r0}(V:Ri (p0,p1)=O r0):FQ 90 [(.ew<|(Naa Qq.b8) p0),(Qg p1)] (Qd r0):=by unfold Ri at V;exact fp (fn:=f90) rfl<|ge 1<|Qh<|ge 1<|Ql (pG V (Qea _) (λc d V=>zf) λ_ d V=>ge 1<|Qn zf)
def ZV:(fJ×(List fJ)×Int×(List Qq)×Int×Nat×(List Qc)×Int×Int×fJ×fJ×Nat×fJ×Int)->Option ((Nat×fJ))|(p1,v20,v226,p0,v2,v223,v225,v626,v627,v222,v641,e,f,c)=>if c<(I p1:Int)then idx v20 v226>>=λg=>idx g c>>=λd=>app 8 f ([(W<|d+1)]:fJ)>>=λj=>ZV (p1,v20,v226,p0,v2,v223,v225,v626,v627,v222,v641,(gb e ([(W<|d+1)]:fJ).isEmpty),j,(W<|c+1))else O (e,f)
 partial_fixpoint
def WI:∀x r,ZV x=O r->match x with|(p1,v20,v226,p0,v2,v223,v225,v626,v627,v222,v641,f,k,s)=>LQ f39 39 [1,1,1,1,1,1,1,1,0,1,0,0,1,0,0,1,1,1,1,1,0,1,0,0] 4 ⟨kp 231 [(0,(KL p0)),(1,(La p1)),(5,(Qd v2)),(7,(.ms 1 v223 0 (I v225)<|I v225)),(8,(Zq v20)),(9,(Qd<|W<|(I p1:Int) - 1)),(10,(Qd v226)),(11,(Qd v626)),(12,(Qd v627)),(14,(.ptr 2 0)),(15,(Qd s))],[(ZU f k),(Vl v223 v225 v222),(U8 v641 f<|I k),(.tok 3<|I ([]:fJ))]⟩ (P1 (.exit 2) (λ(n,p) d=>⟨sl d 231 [(0,(KL p0)),(1,(La p1)),(5,(Qd v2)),(7,(.ms 1 v223 0 (I v225)<|I v225)),(8,(Zq v20)),(9,(Qd<|W<|(I p1:Int) - 1)),(10,(Qd v226)),(11,(Qd v626)),(12,(Qd v627)),(14,(.ptr 2 0))],[(ZU n p),(Vl v223 v225 v222),(U8 v641 n<|I p),(.tok 3<|I ([]:fJ))]⟩) r):=by
 refine ZV.partial_correctness _ (λZV WI x r V=>?_);obtain⟨p1,v20,v226,p0,v2,v223,v225,v626,v627,v222,v641,f,k,s⟩:=x
 exact lp<|Qh<|gr 2<|QM Qg p1<|re 1<|ri V (λV=>Qm<|Qh<|Ql<|Zd<|Qe 4 (bi V λq t V=>X9 1 (λl=>fS.ew<|(Naa Qg) l) v20 v226 q (es:=(Naa (λl=>fS.ew<|(Naa Qg) l)) v20) (d:=(Lb q)) rfl t rfl rfl<|Qe 2 (QE 1 Qg V λj V=>Qe 3 (bi V λc t V=>Zb (v:=.ms 0 (gb f ([(W<|j+1)]:fJ).isEmpty) 0 (I c) (I c)) (λH=>H.set 0<|.mt 3 (gb f ([(W<|j+1)]:fJ).isEmpty)<|cellsOf Qg c) rfl kr (λ_ u=>TQ Qg (l:=k) (es:=([(W<|j+1)]:fJ)) (bytes:=8) (e:=3) (tt:=0) (g:=f) (m:=I k) t yC kr kr kr kr rfl rfl kr rfl kr kr u)<|re 2 ⟨kr,gp<|re 3<|WI _ _ V _<|fZ [(.mt 3 (gb f ([(W<|j+1)]:fJ).isEmpty)<|cellsOf Qg c),(Vl v223 v225 v222),(.box [(La v641),(.ms 0 (gb f ([(W<|j+1)]:fJ).isEmpty) 0 (I c)<|I c)]),(.tok 3<|I ([]:fJ))] (λ_=>(fR (gj Qg _ _ _ _ _)<|fR (Af _ _ _ _ _ _)<|fR kr<|fR kr gD)) rfl⟩)))) (λV=>QD zf)
def QJ:((List fJ)×Int×(List Qq)×fJ×Nat×fJ×Nat×Nat×(List Qc)×Int)->Option ((Nat×fJ×Nat×Nat×(List Qc)))|(v20,v2,p0,p1,f,v222,v223,e,v225,v226)=>if v226<(I v20:Int)then pz v226 v2>>=λv626=>Ri (p0,v626)>>=λv627=>((if(W<|(I p1:Int) - 1)<0 then O J else idx v20 v226>>=λz=>idx z (W<|(I p1:Int) - 1)>>=λA=>O<|A==0)>>=λ(B:Bool)=>(if B=J then O J else O (v626==0))>>=λ(C:Bool)=>if C=J then O J else Ri (p0,(W<|v626 - 1))>>=λD=>O<|D !=v627)>>=λ(E:Bool)=>if E=U then QN (0<I v225/\(I v225)<=4611686018427387904)>>=λ_=>QN (I v222=e)>>=λ_=>idx v222 (W<|(I p1:Int) - 1)>>=λM=>idx v222 (W<|(I p1:Int) - 1)>>=λF=>QN (I v222=e)>>=λ_=>idx v222 (W<|(I p1:Int) - 1)>>=λN=>iM v222 (W<|(I p1:Int) - 1) (W<|F+1)>>=λG=>QJ (v20,v2,p0,p1,f,G,v223,e,v225,(W<|v226+1))else idx v20 v226>>=λv641=>QN (I v222=e)>>=λ_=>ZV (p1,v20,v226,p0,v2,v223,v225,v626,v627,v222,v641,(Od f v225+1),([]:fJ),0)>>=λ(g,c)=>idx p0 v627>>=λn=>if n.fill=U then idx p0 v627>>=λp=>idx p0 v627>>=λj=>idx p0 v627>>=λk=>idx p0 v627>>=λl=>kj 8 (I p1:Int) 0>>=λd=>(if(W<|(I p1:Int) - 1)>=0 then idx p0 v627>>=λq=>idx d (W<|(I p1:Int) - 1)>>=λK=>iM d (W<|(I p1:Int) - 1) q.dk>>=λr=>idx p0 v627>>=λs=>idx v20 v226>>=λt=>idx t (W<|(I p1:Int) - 1)>>=λu=>O (r,(W<|(W<|j.offset+(W<|(W<|v626 - k.er)*l.dk)) - (W<|s.dk*u)))else O (d,(W<|j.offset+(W<|(W<|v626 - k.er)*l.dk))))>>=λ((m,v):(fJ×Int))=>QN (I m=I d)>>=λ_=>Gn 120 (λ(H:Qc) (L:fJ)=>(⟨⟨H.box.lo,L⟩,H.be⟩:Qc)) v225 v222 (⟨(⟨v641,c⟩:Qk),(⟨2,p.bc,v,m,0,0,0⟩:Qt)⟩:Qc)>>=λw=>QJ (v20,v2,p0,p1,g,c,(v223+1),I c,w,(W<|v226+1))else Gn 120 (λ(H:Qc) (L:fJ)=>(⟨⟨H.box.lo,L⟩,H.be⟩:Qc)) v225 v222 (⟨(⟨v641,c⟩:Qk),(⟨1,0,0,([]:fJ),0,0,0⟩:Qt)⟩:Qc)>>=λy=>QJ (v20,v2,p0,p1,g,c,(v223+1),I c,y,(W<|v226+1))else O (f,v222,v223,e,v225)
 partial_fixpoint
def Uy:∀x r,QJ x=O r->match x with|(v20,v2,p0,p1,t,v222,v223,u,v225,v226)=>LQ f39 39 [1,1,1,1,1,1,1,1,0,1,0,0] 2 ⟨kp 231 [(0,(KL p0)),(1,(La p1)),(5,(Qd v2)),(7,(.ms 1 v223 0 (I v225)<|I v225)),(8,(Zq v20)),(9,(Qd<|W<|(I p1:Int) - 1)),(10,(Qd v226))],(TL t v222 v223 u v225)⟩ (P1 (.exit 0) (λ(v621,v622,P,v624,E) d=>⟨sl d 231 [(7,(.ms 1 P 0 (I E)<|I E))],(TL v621 v622 P v624 E)⟩) r):=by
 refine QJ.partial_correctness _ (λQJ Uy x r V=>?_);obtain⟨v20,v2,p0,p1,t,v222,v223,u,v225,v226⟩:=x
 exact lp<|Qh<|gr 2<|Ff (λl=>fS.ew<|(Naa Qg) l) v20 (es:=(Naa (λl=>fS.ew<|(Naa Qg) l)) v20) rfl<|re 1<|ri V (λV=>Qm<|Qh<|Ql<|gr 2 (bi V λv626 C V=>QA rfl (λ_=>OH (a:=v226) (b:=v2) C rfl kr kr)<|re 1<|gr 2 (bi V λv627 C V=>cp (Qgr C)<|re 1<|Qh (bi V λv628 X V=>Zm (λd=>⟨sl d 231 [(0,(KL p0)),(1,(La p1)),(5,(Qd v2)),(7,(.ms 1 v223 0 (I v225)<|I v225)),(8,(Zq v20)),(9,(Qd<|W<|(I p1:Int) - 1)),(10,(Qd v226)),(11,(Qd v626)),(12,(Qd v627)),(13,(Qp v628))],(TL t v222 v223 u v225)⟩) (have V:=X;CK (Qe 3 (bi V λv629 X V=>ZF (j:=12) (λd=>⟨sl d 231 [(0,(KL p0)),(1,(La p1)),(5,(Qd v2)),(7,(.ms 1 v223 0 (I v225)<|I v225)),(8,(Zq v20)),(9,(Qd<|W<|(I p1:Int) - 1)),(10,(Qd v226)),(11,(Qd v626)),(12,(Qd v627)),(109,(Qp v629))],(TL t v222 v223 u v225)⟩) (λd=>Qe 1 (bi V λv632 X V=>ZF (j:=16) (λd=>⟨sl d 231 [(0,(KL p0)),(1,(La p1)),(5,(Qd v2)),(7,(.ms 1 v223 0 (I v225)<|I v225)),(8,(Zq v20)),(9,(Qd<|W<|(I p1:Int) - 1)),(10,(Qd v226)),(11,(Qd v626)),(12,(Qd v627)),(113,(Qp v632))],(TL t v222 v223 u v225)⟩) (λd=>Qe 1<|lJ 114 V (λV=>re 8 ⟨kr,zf⟩) (λV=>Qe 3 (bi V λv633 C V=>cp (Qgr C)<|re 4 ⟨kr,zf⟩))) (λhJ=>lJ 110 X (λV=>Qe 3 zf) (λV=>Qe 3 zf)))) (λhJ=>gs 100 X (λV=>Qe 9 zf) (λV=>Qe 2 (bi V λQ C V=>X9 1 (λl=>fS.ew<|(Naa Qg) l) v20 v226 Q (es:=(Naa (λl=>fS.ew<|(Naa Qg) l)) v20) (d:=(Lb Q)) rfl C rfl rfl<|Qe 2 (QE 1 Qg V λv631 V=>Qe 3 zf))))))) (λd=>Qh<|ge 2<|zb V (λV=>Qh<|Vj [(5,[1]),(6,[1])]<|qL 5<|Qe 2<|Qe 1<|Qe 1 (gi V λF V=>QA rfl (λ_=>Qil (e:=83) (size:=9) (l:=I v225) (m:=I v225) (tt:=1) (gg:=v223) F rfl rfl kr kr kr kr)<|Q6<|vA rfl rfl rfl (Db (tt:=1) (gg:=v223) (j:=(0+mO 9 (I v225 - 1))) (w:=0) (e:=83) (cs:=rT Qc.b8 1 0 t u v225) rfl kr kr kr)<|vA rfl rfl rfl (Db (tt:=1) (gg:=v223) (j:=((0+mO 9 (I v225 - 1))+0)) (w:=1) (e:=83) (cs:=rT Qc.b8 1 0 t u v225) rfl kr kr kr)<|qL 14<|QA rfl (λ_=>QiH (tt:=1) (te:=83) (gg:=v223) (g:=t) (n:=u) (out:=v225) (l:=I v225) (size:=9) (q:=1) (a:=0+1) (j:=(((0+mO 9 (I v225 - 1))+0)+1)) Qc.fit F rfl kr (bO _ _ _) rfl kr rfl kr kr kr kr)<|Qe 1 (gi V λY V=>bi V λv635 C V=>QA rfl (λ_=>QR (e:=3) (n:=(W<|(I p1:Int) - 1)) (j:=((W<|(I p1:Int) - 1)).toNat) (tt:=0) (g:=t) (lo:=0) (len:=u) (cap:=u) (k:=.i64) kr kr rfl kr kr (gw C)<|zB (gJ C) Y) (bi V λR C V=>QA rfl (λ_=>Ye (tt:=0) (g:=t) (j:=(0+((W<|(I p1:Int) - 1)).toNat)) (e:=3) (cs:=cellsOf Qg v222) (v:=.b7 (Qg R)) kr kr rfl kr (Zt kr)<|gM Qg C)<|Qe 1 (gi V λhl639 V=>bi V λv638 C V=>QA rfl (λ_=>QR (e:=3) (n:=(W<|(I p1:Int) - 1)) (j:=((W<|(I p1:Int) - 1)).toNat) (tt:=0) (g:=t) (lo:=0) (len:=u) (cap:=u) (k:=.i64) kr kr rfl kr kr (gw C)<|zB (gJ C) hl639) (bi V λS C V=>Zb (λH=>H.set 0<|ZU t S) rfl kr (λ_=>Js Qg (l:=v222) (n:=(W<|(I p1:Int) - 1)) (y:=(W<|R+1)) C yC kr rfl kr kr kr kr)<|Q6<|yG<|QD<|gp<|re 3<|Uy _ _ V _<|fZ (TL t S v223 u v225) (λ_=>(fR (gj Qg _ _ _ _ _)<|fR (tG _ _ _ _ _ (dB _) _) gD)) rfl)))))) (λV=>Qm<|Qh<|Vj [(4,[2,1,0,1])]<|qL 4<|Qe 2 (bi V λv641 C V=>X9 1 (λl=>fS.ew<|(Naa Qg) l) v20 v226 v641 (es:=(Naa (λl=>fS.ew<|(Naa Qg) l)) v20) (d:=(Lb v641)) rfl C rfl rfl<|re 1 (gi V λhl642 V=>vA rfl rfl rfl (FG (sh:=(λ(T:Qc) (h_:fJ)=>(⟨⟨T.box.lo,h_⟩,T.be⟩:Qc))) (ei:=3) (te:=83) (g0:=t) (g1:=v223) (out:=v225) (hi:=v222) (n:=u) (q:=1) (rest:=[]) (cs:=[(La v641),Ea]) Qc.fit (λ_ _=>rfl) hl642 rfl kr kr kr)<|qL 7<|re 2<|yG<|Qh<|ge 1<|Ql<|kY V (WI _) (λ⟨s,f⟩ d V=>ge 3<|Qh<|gr 2 (QE 6 Qq.b8 V λv1248 V=>re 3<|zb V (λV=>Qh<|Zd<|Qe 2 (QE 6 Qq.b8 V λA V=>Qe 4 (QE 6 Qq.b8 V λv1250 V=>Qe 5 (QE 6 Qq.b8 V λv1251 V=>Qe 5 (QE 6 Qq.b8 V λv1252 V=>Qe 5<|QM Qg p1 (bi V λc C V=>Zb (v:=.ms 6 (mg c) 0 (I c) (I c)) (λH=>H++[.mt 3 (mg c) (cellsOf Qg c)]) rfl kr (by intro K hk;exact V1 6 Qg (z:=0) (n:=(I p1:Int)) (bytes:=8) (e:=3) (os:=[]) C kr kr kr kr rfl rfl rfl kr kr kr hk)<|re 2 ⟨kr,ge 2 (sB V λD B X V=>Zm (λd=>⟨sl d 231 [(0,(KL p0)),(1,(La p1)),(5,(Qd v2)),(7,(.ms 1 v223 0 (I v225)<|I v225)),(8,(Zq v20)),(9,(Qd<|W<|(I p1:Int) - 1)),(10,(Qd v226)),(14,(.ptr 2 0)),(16,(.ptr 5 0))],[(ZU s f),(Vl v223 v225 v222),(U8 v641 s<|I f),(.tok 3<|I ([]:fJ)),(.tok 3<|I ([]:fJ)),(.box [(Qd 2),(Qd A.bc),(Qd B),(.ms 6 (mg c) 0 (I c)<|I c),(Qd 0),(Qd 0),(Qd 0)]),(.mt 3 (mg c)<|cellsOf Qg D)]⟩) (have V:=X;ri V (λV=>Qh<|Zd<|Qe 5 (QE 6 Qq.b8 V λv1256 V=>Qe 2 (bi V λv1257 C V=>QA rfl (λ_=>QR (e:=3) (n:=(W<|(I p1:Int) - 1)) (j:=((W<|(I p1:Int) - 1)).toNat) (tt:=6) (g:=(mg c)) (lo:=0) (len:=I c) (cap:=I c) (k:=.i64) kr kr rfl kr kr (gw C)<|zB (gJ C) rfl) (bi V λv1258 C V=>Zb (λH=>H.set 6<|.mt 3 (mg c)<|cellsOf Qg v1258) rfl kr (λ_=>Js Qg (l:=c) (n:=(W<|(I p1:Int) - 1)) (y:=v1256.dk) C yC kr rfl kr kr kr kr)<|Q6 ⟨kr,Zd<|Qe 4 (QE 6 Qq.b8 V λv1259 V=>Qe 4 (bi V λG C V=>X9 1 (λl=>fS.ew<|(Naa Qg) l) v20 v226 G (es:=(Naa (λl=>fS.ew<|(Naa Qg) l)) v20) (d:=(Lb G)) rfl C rfl rfl<|Qe 2 (QE 1 Qg V λv1261 V=>re 5 ⟨kr,zf⟩)))⟩)))) (λV=>Qm zf)) (λd=>Vj [(4,[3]),(5,[4])]<|qL 4<|Qe 2 (gi V λN V=>Zb (v:=(.b7<|.agg [(Qg 2),(Qg A.bc),(Qg B),(Lb D),(Qg 0),(Qg 0),(Qg 0)])) (λH=>(H.set 6<|.mt 3 ((mg c)+1) [])) rfl kr (λ_=>T2 (n:=7) (i:=5) (off:=0) (bs:=[(Qd 2),(Qd A.bc),(Qd B),(.ms 6 (mg c) 0 (I c)<|I c),(Qd 0),(Qd 0),(Qd 0)]) (cs:=[(Qd 2),(Qd A.bc),(Qd B),(.ms 6 (mg c) 0 (I c)<|I c),(Qd 0),(Qd 0),(Qd 0)]) rfl rfl kr kr kr kr kr rfl<|jr<|jr<|jr<|sJ Qg yC kr N<|jr<|jr<|jr uA)<|re 1<|vA rfl rfl rfl (NP (e:=83) (size:=9) (x:=.tmp 227) (cs:=[(La v641),(.ms 0 s 0 (I f)<|I f),(Qd 2),(Qd A.bc),(Qd B),(La D),(Qd 0),(Qd 0),(Qd 0)]) rfl kr kr kr kr kr) (bi V λL C V=>vA rfl rfl rfl (AJ (sh:=(λ(T:Qc) (h_:fJ)=>(⟨⟨T.box.lo,h_⟩,T.be⟩:Qc))) (out:=v225) (hi:=v222) (p:=(⟨(⟨v641,f⟩:Qk),(⟨2,A.bc,B,D,0,0,0⟩:Qt)⟩:Qc)) (v:=L) (ei:=3) (te:=83) (bytes:=120) (gg:=s) (g1:=v223) (i:=7) (l:=I v225) (hc:=cellsOf Qg f) (rest:=[(U8 v641 s<|I f),(.tok 3<|I ([]:fJ)),(.tok 3<|I ([]:fJ)),(.box [(Qd 2),(Qd A.bc),(Qd B),(.ms 6 (mg c) 0 (I c)<|I c),(Qd 0),(Qd 0),(Qd 0)]),(.mt 3 ((mg c)+1)<|cellsOf Qg ([]:fJ)),(.box [(La v641),(.ms 0 s 0 (I f)<|I f),(Qd 2),(Qd A.bc),(Qd B),(La D),(Qd 0),(Qd 0),(Qd 0)])]) (q:=1) (n:=I f) (size:=9) Qc.fit C rfl rfl kr kr kr kr kr kr kr kr kr)<|qL 7<|re 1<|yG<|gp<|re 3<|Uy _ _ V _<|fZ [(ZU s f),(.mt 83 (v223+1)<|rT Qc.b8 1 0 s (I f) L)] (λ_=>(fR (gj Qg _ _ _ _ _)<|fR (tG _ _ _ _ _ (dB _) _) gD)) rfl))))⟩)))))) (λV=>Qm<|Vj [(4,[3]),(5,[4])]<|qL 4<|Qe 2<|Zb (v:=(.b7<|.agg [(Qg 1),(Qg 0),(Qg 0),Eb,(Qg 0),(Qg 0),(Qg 0)])) (λH=>H) rfl kr (λ_=>T2 (n:=7) (i:=5) (off:=0) (bs:=[(Qd 1),(Qd 0),(Qd 0),(.vec 4 []),(Qd 0),(Qd 0),(Qd 0)]) (cs:=[(Qd 1),(Qd 0),(Qd 0),(.vec 4 []),(Qd 0),(Qd 0),(Qd 0)]) rfl rfl kr kr kr kr kr rfl<|jr<|jr<|jr<|SP<|jr<|jr<|jr uA)<|re 1<|vA rfl rfl rfl (NP (e:=83) (size:=9) (x:=.tmp 227) (cs:=[(La v641),(.ms 0 s 0 (I f)<|I f),(Qd 1),(Qd 0),(Qd 0),Ea,(Qd 0),(Qd 0),(Qd 0)]) rfl kr kr kr kr kr) (bi V λM C V=>vA rfl rfl rfl (AJ (sh:=(λ(T:Qc) (h_:fJ)=>(⟨⟨T.box.lo,h_⟩,T.be⟩:Qc))) (out:=v225) (hi:=v222) (p:=(⟨(⟨v641,f⟩:Qk),(⟨1,0,0,([]:fJ),0,0,0⟩:Qt)⟩:Qc)) (v:=M) (ei:=3) (te:=83) (bytes:=120) (gg:=s) (g1:=v223) (i:=6) (l:=I v225) (hc:=cellsOf Qg f) (rest:=[(U8 v641 s<|I f),(.tok 3<|I ([]:fJ)),(.tok 3<|I ([]:fJ)),(.box [(Qd 1),(Qd 0),(Qd 0),(.vec 4 []),(Qd 0),(Qd 0),(Qd 0)]),(.box [(La v641),(.ms 0 s 0 (I f)<|I f),(Qd 1),(Qd 0),(Qd 0),Ea,(Qd 0),(Qd 0),(Qd 0)])]) (q:=1) (n:=I f) (size:=9) Qc.fit C rfl rfl kr kr kr kr kr kr kr kr kr)<|qL 7<|re 1<|yG<|gp<|re 3<|Uy _ _ V _<|fZ [(ZU s f),(.mt 83 (v223+1)<|rT Qc.b8 1 0 s (I f) M)] (λ_=>(fR (gj Qg _ _ _ _ _)<|fR (tG _ _ _ _ _ (dB _) _) gD)) rfl)))) (hst:=(fZ [(.mt 3 (Od t v225+1)<|cellsOf Qg ([]:fJ)),(Vl v223 v225 v222),(.box [(La v641),(.ms 0 (Od t v225+1) 0 (I ([]:fJ))<|I ([]:fJ))]),(.tok 3<|I ([]:fJ))] (λ_=>(fR (gj Qg _ _ _ _ _)<|fR (Af _ _ _ _ _ _)<|fR kr<|fR kr gD)) rfl)))))))))) (λV=>QD zf)
def ZK:((List Qq)×fJ)->Option (List Qc)|(p0,p1)=>Yn p1>>=λv=>if v=0 then O ([]:(List Qc))else S4 p0>>=λv2=>(if v2=0 then O J else if(I p0:Int)=1 then idx p0 0>>=λw=>O w.fill else O U)>>=λ(y:Bool)=>if y=J then T8 (p1,(⟨1,0,0,([]:fJ),0,0,0⟩:Qt))>>=λz=>O z else if(I p0:Int)=1 then idx p0 0>>=λA=>idx p0 0>>=λB=>idx p0 0>>=λC=>TP (p1,C.dk)>>=λD=>(idx p0 0>>=λf=>if f.dk≠0 then Yn p1>>=λg=>O (decide<|g>v2)else O U)>>=λ(j:Bool)=>(if j=J then TP (p1,1)>>=λk=>idx p0 0>>=λl=>O ((3:Int),k,l.dk,v2)else O ((2:Int),D,(0:Int),(0:Int)))>>=λ((m,n,p,q):(Int×fJ×Int×Int))=>T8 (p1,(⟨m,A.bc,B.offset,n,0,p,q⟩:Qt))>>=λr=>O r else ZZ p1>>=λv20=>QJ (v20,v2,p0,p1,0,([]:fJ),0,0,([]:List Qc),0)>>=λ(s,c,t,d,e)=>QN (I c=d)>>=λ_=>O<|th (λ(u:Qc) (E:fJ)=>(⟨⟨u.box.lo,E⟩,u.be⟩:Qc)) e c
def Qg9{p0 p1 r0}(V:ZK (p0,p1)=O r0):FQ 39 [(.ew<|(Naa Qq.b8) p0),(Lb p1)] (QL r0):=by
 unfold ZK at V
 exact fp (fn:=f39) rfl<|ge 1<|Qh<|gr 1 (bi V λH c V=>cp (TV c)<|re 1<|mQ V (λV=>ge 1<|Qn zf) (λV=>Qm<|gr 1 (bi V λv2 c V=>cp (Qhp c)<|re 1<|Qh<|Qh (bi V λz g V=>Zm (λd=>⟨sl d 231 [(0,(KL p0)),(1,(La p1)),(5,(Qd v2)),(34,(Qp z))],[TH]⟩) (have V:=g;gp (Qe 3<|Ba 24 V (λV=>re 10 zf) (λV=>Qe 1<|QM Qq.b8 p0<|Qe 2<|Ba 28 V (λV=>Qe 1 (QE 6 Qq.b8 V λK V=>re 4 zf)) (λV=>re 6 zf)))) (λd=>lf V (λV=>gr 2 (bi V λL c V=>cp (QfW c)<|re 1<|Qn zf)) (λV=>Qm<|Qh<|gr 1<|QM Qq.b8 p0<|re 1<|mQ V (λV=>Qh<|Zd<|Qe 1 (QE 6 Qq.b8 V λw V=>Qe 3 (QE 6 Qq.b8 V λx V=>Qe 4 (QE 6 Qq.b8 V λM V=>Qe 2 (bi V λA c V=>cp (QfK c)<|re 3 ⟨kr,Qh<|Qh (bi V λr g V=>Zm (λd=>⟨sl d 231 [(0,(KL p0)),(1,(La p1)),(5,(Qd v2)),(6,(.ptr 1 0)),(66,(Qp r))],[TH,(.box [(Qd 2),(Qd w.bc),(Qd x.offset),(La A),(Qd 0),(Qd 0),(Qd 0)])]⟩) (have V:=g;gp (Qe 1 (QE 6 Qq.b8 V λB V=>Qe 4<|KP 61 V (λV=>Qe 1 (bi V λC c V=>cp (TV c)<|re 3 zf)) (λV=>re 5 zf)))) (λd=>bi4 V λs t u v g V=>Zm (λd=>⟨sl d 231 [(1,(La p1)),(6,(.ptr 1 0))],[TH,(.box [(Qd s),(Qd w.bc),(Qd x.offset),(La t),(Qd 0),(Qd u),(Qd v)])]⟩) (have V:=g;lf V (λV=>ge 2<|gr 1 (bi V λD c V=>cp (QfK c)<|re 2<|gr 1 (QE 6 Qq.b8 V λE V=>re 4<|gp<|re 3 zf))) (λV=>Qm zf)) (λd=>gr 2 (bi V λF c V=>cp (QfW c)<|re 1<|Qn zf))))⟩))))) (λV=>Qm<|ge 1<|gr 1 (bi V λv20 c V=>cp (Vv c)<|re 1<|gr 1<|QM Qg p1<|re 2<|Qh<|ge 1<|Ql<|kY V (Uy _) (λ⟨j,k,m,p,f⟩ d V=>Qh<|Vj [(0,[5])] (gi V λe V=>vA rfl rfl rfl (PF (sh:=(λ(y:Qc) (G:fJ)=>(⟨⟨y.box.lo,G⟩,y.be⟩:Qc))) (ei:=3) (te:=83) (g0:=j) (g1:=m) (out:=f) (hi:=k) (n:=p) (q:=1) (l:=I f) (rest:=[]) (size:=9) Qc.fit (λ_ _=>rfl) e rfl rfl kr kr kr kr)<|qL 2<|re 1<|yG<|Qn zf)) (hst:=(fZ [TH,(.mt 83 0<|rT Qc.b8 1 0 0 0 ([]:List Qc))] (λ_=>(fR (gj Qg _ _ _ _ _)<|fR (tG _ _ _ _ _ (dB _) _) gD)) rfl))))))))))
def Xk:Qb->Option (List Qc)|p0=>if p0.bx=1 then TN (p0.bc,p0.aa)>>=λq=>O q else idx p0.ea 0>>=λv2=>Xk v2>>=λc=>idx p0.ea 0>>=λd=>if p0.bx=2 then Ve (c,d.aa,p0.aa,p0.cx)>>=λr=>O r else if p0.bx=3 then idx p0.aa p0.ch>>=λs=>UJ (c,p0.ch,s)>>=λt=>O t else if p0.bx=4 then idx p0.aa p0.ch>>=λu=>UP (c,p0.ch,p0.cS,u)>>=λv=>O v else if p0.bx=5 then J8 (c,p0.eh,p0.aa)>>=λe=>O e else if p0.bx=7 then idx p0.ea 1>>=λf=>Xk f>>=λg=>idx d.aa p0.ch>>=λj=>Ur (c,g,p0.ch,j)>>=λk=>O k else YV (d.aa,p0.aa)>>=λl=>if l=J then O c else XW (d.aa,c)>>=λm=>Tw m>>=λn=>ZK (n,p0.aa)>>=λp=>O p
 partial_fixpoint
def VT:Qb->(List Qc)->Prop:=λx r=>match x,r with|p0,c=>∀H,PC prog env 11 ([(Qb.ex p0)].map .b7) H (QL c) H
def yE:(∀x r,Xk x=O r->VT x r):=by
 refine Xk.partial_correctness VT ?_
 .intro Xk Wk p0 s V;unfold VT;intro H;refine sF (ds:=[(Qb.ex p0)]) (fn:=f11) rfl ?_
  exact ge 2<|Qh<|ge 3<|mQ V (λV=>gr 4 (bi V λt c V=>cp (Qho c)<|re 1<|Qn zf)) (λV=>Qm<|gr 2 (bi V λv2 c V=>X9 8 Qb.b8 p0.ea 0 v2 (es:=Qb.hE p0.ea) (d:=(Qb.ex v2)) (Qb.fa _) c (Qb.i6 v2) rfl<|Qe 1 (bi V λu c V=>XF (Wk _ _ c [])<|re 1<|gr 2 (bi V λf c V=>X9 8 Qb.b8 p0.ea 0 f (es:=Qb.hE p0.ea) (d:=(Qb.ex f)) (Qb.fa _) c (Qb.i6 f) rfl<|re 3<|Qh<|ge 2<|Ql<|ge 2<|mQ V (λV=>gr 6 (bi V λv c V=>cp (Qg8 c)<|re 1<|Qn zf)) (λV=>ge 2<|mQ V (λV=>Qh<|Zd<|Qe 7 (QE 1 Qg V λw V=>Qe 1 (bi V λy c V=>cp (QgL c)<|re 1 ⟨kr,Qn zf⟩))) (λV=>ge 2<|mQ V (λV=>Qh<|Zd<|Qe 9 (QE 1 Qg V λz V=>Qe 1 (bi V λA c V=>cp (Qg7 c)<|re 1 ⟨kr,Qn zf⟩))) (λV=>ge 2<|mQ V (λV=>gr 5 (bi V λg c V=>cp (Qgp c)<|re 1<|Qn zf)) (λV=>ge 2<|mQ V (λV=>Qh<|Zd<|Qe 3 (bi V λe c V=>X9 8 Qb.b8 p0.ea 1 e (es:=Qb.hE p0.ea) (d:=(Qb.ex e)) (Qb.fa _) c (Qb.i6 e) rfl<|Qe 1 (bi V λj c V=>XF (Wk _ _ c [])<|Qe 5 (QE 1 Qg V λk V=>Qe 1 (bi V λl c V=>cp (Qgx c)<|re 1 ⟨kr,Qn zf⟩))))) (λV=>Qm<|Qh<|gr 3 (bi V λm c V=>cp (TZ c)<|Q6<|lf V (λV=>ge 2<|Qn zf) (λV=>Qm<|Qh<|Zd<|Qe 2 (bi V λn c V=>cp (Qfl c) (bi V λp c V=>cp (Qh3 c)<|Qe 2 (bi V λq c V=>cp (Qg9 c)<|re 1 ⟨kr,Qn zf⟩))))))))))))))
def Wk:∀x r,Xk x=O r->VT x r:=yE
def Xo:((List Qa)×(List Qc)×Int)->Option ((List Qc))|(p0,e,d)=>if d<(I p0:Int)then idx p0 d>>=λf=>idx p0 d>>=λg=>idx p0 d>>=λc=>app 120 e ([(⟨(⟨f.box.lo,g.box.hi⟩:Qk),(⟨c.be.bx,c.be.bc,c.be.ek,c.be.bm,c.be.ed,c.be.dk,c.be.ep⟩:Qt)⟩:Qc)]:List Qc)>>=λj=>Xo (p0,j,(W<|d+1))else O e
 partial_fixpoint
def Qd4:∀x r,Xo x=O r->match x with|(p0,e,f)=>LQ f13 13 [1,1,0,1,0,0] 1 ⟨kp 67 [(0,(Q7 p0)),(3,(.vec 0<|(Naa Qc.b8) e)),(4,(Qd f))],[(.tok 83<|I e)]⟩ (P1 (.exit 0) (λg d=>⟨sl d 67 [(3,(.vec 0<|(Naa Qc.b8) g))],[(.tok 83<|I g)]⟩) r):=by
 refine Xo.partial_correctness _ (λXo Qd4 x r V=>?_);obtain⟨p0,e,f⟩:=x
 exact lp<|Qh<|gr 2<|QM Qa.b8 p0<|re 1<|ri V (λV=>Qm<|Qh<|Ql<|ge 1<|gr 2 (QE 9 Qa.b8 V λj V=>re 6<|gr 2 (QE 9 Qa.b8 V λk V=>re 6<|gr 2 (QE 9 Qa.b8 V λc V=>re 4<|ge 5<|ge 5<|ge 5<|ge 5<|ge 5<|ge 5<|ge 5<|gp<|Qe 3 (bi V λl m V=>YA 83 9 120 0 Qc.b8 e ([(⟨(⟨j.box.lo,k.box.hi⟩:Qk),(⟨c.be.bx,c.be.bc,c.be.ek,c.be.bm,c.be.ed,c.be.dk,c.be.ep⟩:Qt)⟩:Qc)]:List Qc) l (xs:=(Naa Qc.b8) e) (es:=(Naa Qc.b8) ([(⟨(⟨j.box.lo,k.box.hi⟩:Qk),(⟨c.be.bx,c.be.bc,c.be.ek,c.be.bm,c.be.ed,c.be.dk,c.be.ep⟩:Qt)⟩:Qc)]:List Qc)) (L:=(Naa Qc.b8)) yC rfl rfl Qc.fit m<|re 1<|gp<|re 3<|Qd4 _ _ V _ kr))))) (λV=>QD zf)
def TM:(List Qa)->Option (List Qc)|p0=>Xo (p0,([]:List Qc),0)>>=λc=>O c
def Qge:(List Qa)->(List Qc)->Prop:=λx r=>match x,r with|p0,c=>∀H,PC prog env 13 ([(.ew<|(Naa Qa.b8) p0)].map .b7) H (QL c) H
def QhA:∀x r,TM x=O r->Qge x r:=by intro p0 e V;unfold TM at V;unfold Qge;intro H;refine sF (ds:=[(.ew<|(Naa Qa.b8) p0)]) (fn:=f13) rfl ?_;exact ge 1<|ge 1<|Qh<|ge 1<|Ql (kY V (Qd4 _) λc d V=>ge 2<|Qn zf)
def XA:(Qk×Int)->Option (Unit⊕ Unit)|(p0,c)=>if c<(I p0.lo:Int)then(idx p0.lo c>>=λd=>(if d<0 then O J else idx p0.lo c>>=λe=>idx p0.hi c>>=λf=>O<|decide<|e>f)>>=λ(g:Bool)=>if g=J then O J else idx p0.hi c>>=λj=>O<|decide<|j>65536)>>=λ(k:Bool)=>if k=J then O (Naf ())else XA (p0,(W<|c+1))else O (Nag ())
 partial_fixpoint
def Qdy:∀x r,XA x=O r->match x with|(p0,c)=>LQ f43 43 [1,1,0,1,0,0] 1 ⟨kp 51 [(1,(.ptr 0 0)),(3,(Qd c))],[(Qz p0.lo p0.hi)]⟩ (P2 .ret (λ_ d=>⟨sl d 51 [(2,(Qp U))],[(Qz p0.lo p0.hi)]⟩) (.exit 0) (λ_ d=>⟨sl d 51 [],[(Qz p0.lo p0.hi)]⟩) r):=by refine XA.partial_correctness _ (λXA Qdy x r V=>?_);obtain⟨p0,c⟩:=x;exact lp<|Qh<|gr 3<|QM Qg p0.lo<|re 1<|ri V (λV=>Qm<|Qh<|Ql<|Qh (bi V λe g V=>Zm (λd=>⟨sl d 51 [(1,(.ptr 0 0)),(3,(Qd c)),(50,(Qp e))],[(Qz p0.lo p0.hi)]⟩) (have V:=g;Pj (Qe 3 (QE 1 Qg V λk V=>Qe 3 (bi V λf g V=>ZF (j:=19) (λd=>⟨sl d 51 [(1,(.ptr 0 0)),(3,(Qd c)),(42,(Qp f))],[(Qz p0.lo p0.hi)]⟩) (λd=>Qe 1<|lJ 43 V (λV=>re 7 ⟨kr,zf⟩) (λV=>Qe 3 (QE 1 Qg V λl V=>re 3 ⟨kr,zf⟩))) (λhJ=>gs 30 g (λV=>Qe 12 zf) (λV=>Qe 3 (QE 1 Qg V λm V=>Qe 4 (QE 1 Qg V λn V=>Qe 3 zf)))))))) (λd=>lf V (λV=>ge 1<|Qn zf) (λV=>Qm<|gp<|re 3<|Qdy _ _ V _ kr)))) (λV=>QD zf)
def Sd:Qk->Option Bool|p0=>(if(I p0.lo:Int)≠(I p0.hi:Int)then O J else O (decide<|(I p0.lo:Int)>16))>>=λ(c:Bool)=>if c=J then O U else(XA (p0,0)>>=λ|.inl _=>O U|.inr _=>O J)
def QfS{p0 r0}(V:Sd p0=O r0):FQ 43 [(Qk.b8 p0)] (Qp r0):=by unfold Sd at V;exact fp (fn:=f43) rfl<|ge 2<|Qh<|Qh (bi V λc e V=>Zm (λd=>⟨sl d 51 [(1,(.ptr 0 0)),(16,(Qp c))],[(Qz p0.lo p0.hi)]⟩) (have V:=e;gp (Qe 2<|QM Qg p0.lo<|Qe 2<|QM Qg p0.hi<|Qe 2<|KP 11 V (λV=>re 5 zf) (λV=>Qe 2<|QM Qg p0.lo<|re 2 zf))) (λd=>lf V (λV=>ge 1<|Qn zf) (λV=>Qm<|Qh<|ge 1<|Ql (pG V (Qdy _) (λ_ d V=>zf) λ_ d V=>ge 1<|Qn zf))))
def Z8:(Int×Int)->Option Bool|(p0,p1)=>if p0>=(W<|0 - p1)then O (decide<|p0<=p1)else O U
def T5{p0 p1 r0}(V:Z8 (p0,p1)=O r0):FQ 130 [(Qg p0),(Qg p1)] (Qp r0):=by unfold Z8 at V;exact fp (fn:=f130) rfl<|ge 1<|gr 5<|gs 9 V (λV=>re 5<|Qn zf) (λV=>re 5<|Qn zf)
def Z6:(Qt×Int×Int)->Option (Unit⊕ Unit)|(p0,p1,c)=>if c<(I p0.bm:Int)then idx p0.bm c>>=λd=>Z8 (d,p1)>>=λe=>if e=U then O (Naf ())else Z6 (p0,p1,(W<|c+1))else O (Nag ())
 partial_fixpoint
def QcG:∀x r,Z6 x=O r->match x with|(p0,p1,c)=>LQ f92 92 [1,0,1,0,0] 1 ⟨kp 49 [(1,(Qd p1)),(2,(.ptr 0 0)),(5,(Qd c))],[(QB p0.bx p0.bc p0.ek p0.bm p0.ed p0.dk p0.ep)]⟩ (P2 .ret (λ_ d=>⟨sl d 49 [(4,(Qp U))],[(QB p0.bx p0.bc p0.ek p0.bm p0.ed p0.dk p0.ep)]⟩) (.exit 0) (λ_ d=>⟨sl d 49 [(1,(Qd p1)),(2,(.ptr 0 0))],[(QB p0.bx p0.bc p0.ek p0.bm p0.ed p0.dk p0.ep)]⟩) r):=by refine Z6.partial_correctness _ (λZ6 QcG x r V=>?_);obtain⟨p0,p1,c⟩:=x;exact lp<|Qh<|gr 3<|QM Qg p0.bm<|re 1<|ri V (λV=>Qm<|Qh<|Ql<|gr 3 (QE 1 Qg V λe V=>Qe 2 (bi V λf g V=>cp (T5 g)<|re 1<|zb V (λV=>ge 1<|Qn zf) (λV=>Qm<|gp<|re 3<|QcG _ _ V _ kr)))) (λV=>QD zf)
def J0:(Qt×Int)->Option Bool|(p0,p1)=>(Z6 (p0,p1,0)>>=λ|.inl _=>O U|.inr _=>Z8 (p0.bc,p1)>>=λc=>(if c=J then Z8 (p0.ek,p1)>>=λd=>O d else O U)>>=λ(e:Bool)=>(if e=J then Z8 (p0.ed,p1)>>=λf=>O f else O U)>>=λ(g:Bool)=>(if g=J then Z8 (p0.dk,p1)>>=λj=>O j else O U)>>=λ(k:Bool)=>if k=J then Z8 (p0.ep,p1)>>=λl=>O l else O U)
def QgJ{p0 p1 r0}(V:J0 (p0,p1)=O r0):FQ 92 [(Qt.b8 p0),(Qg p1)] (Qp r0):=by
 unfold J0 at V
 exact fp (fn:=f92) rfl<|ge 2<|Qh<|ge 1<|Ql (pG V (QcG _) (λ_ d V=>zf) λ_ d V=>Qh<|CK<|Qe 3 (bi V λl c V=>cp (T5 c)<|Qe 1 (bi V λe f V=>ZF (j:=10) (λd=>⟨sl d 49 [(1,(Qd p1)),(2,(.ptr 0 0)),(30,(Qp e))],[(QB p0.bx p0.bc p0.ek p0.bm p0.ed p0.dk p0.ep)]⟩) (λd=>Qe 1 (bi V λg f V=>ZF (j:=16) (λd=>⟨sl d 49 [(1,(Qd p1)),(2,(.ptr 0 0)),(36,(Qp g))],[(QB p0.bx p0.bc p0.ek p0.bm p0.ed p0.dk p0.ep)]⟩) (λd=>Qe 1 (bi V λk f V=>ZF (j:=22) (λd=>⟨sl d 49 [(1,(Qd p1)),(2,(.ptr 0 0)),(42,(Qp k))],[(QB p0.bx p0.bc p0.ek p0.bm p0.ed p0.dk p0.ep)]⟩) (λd=>Qe 1<|lJ 43 V (λV=>Qe 3 (bi V λm c V=>cp (T5 c)<|re 2 ⟨kr,Qn zf⟩)) (λV=>re 6 ⟨kr,Qn zf⟩)) (λhJ=>lJ 37 f (λV=>Qe 3 (bi V λn c V=>cp (T5 c)<|Qe 1 zf)) (λV=>Qe 5 zf)))) (λhJ=>lJ 31 f (λV=>Qe 3 (bi V λp c V=>cp (T5 c)<|Qe 1 zf)) (λV=>Qe 5 zf)))) (λhJ=>lJ 25 f (λV=>Qe 3 (bi V λq c V=>cp (T5 c)<|Qe 1 zf)) (λV=>Qe 5 zf)))))
def JI:(Qt×Int)->Option Bool|(p0,p1)=>((if p1<0 then O J else O (decide<|p1>16))>>=λ(v2:Bool)=>(if v2=J then O J else J0 ((⟨p0.bx,p0.bc,p0.ek,p0.bm,p0.ed,p0.dk,p0.ep⟩:Qt),1099511627776)>>=λd=>O<|!d)>>=λ(e:Bool)=>if e=J then O J else O (decide<|p0.bc<0))>>=λ(f:Bool)=>if f=J then O U else if p0.bx=1 then(if p0.bc=0 then O (p0.ek==0)else O U)>>=λ(g:Bool)=>(if g=J then O ((I p0.bm:Int)==0)else O U)>>=λ(j:Bool)=>(if j=J then O (p0.ed==0)else O U)>>=λ(k:Bool)=>(if k=J then O (p0.dk==0)else O U)>>=λ(l:Bool)=>if l=J then O (p0.ep==0)else O U else if p0.bx=2 then(if(I p0.bm:Int)=p1 then O (p0.ed==0)else O U)>>=λ(m:Bool)=>(if m=J then O (p0.dk==0)else O U)>>=λ(c:Bool)=>if c=J then O (p0.ep==0)else O U else if p0.bx=3 then if(I p0.bm:Int)=p1 then O (decide<|p0.ep>0)else O U else O U
def Qhn{p0 p1 r0}(V:JI (p0,p1)=O r0):FQ 45 [(Qt.b8 p0),(Qg p1)] (Qp r0):=by
 unfold JI at V
 exact fp (fn:=f45) rfl<|ge 2<|Qh<|Qh (bi V λf c V=>Zm (λd=>⟨sl d 88 [(1,(Qd p1)),(2,(.ptr 0 0)),(20,(Qp f))],[(QB p0.bx p0.bc p0.ek p0.bm p0.ed p0.dk p0.ep)]⟩) (have V:=c;CK (Qe 3 (bi V λv2 c V=>ZF (j:=6) (λd=>⟨sl d 88 [(1,(Qd p1)),(2,(.ptr 0 0)),(10,(Qp v2))],[(QB p0.bx p0.bc p0.ek p0.bm p0.ed p0.dk p0.ep)]⟩) (λd=>Qe 1 (bi V λg c V=>ZF (j:=11) (λd=>⟨sl d 88 [(1,(Qd p1)),(2,(.ptr 0 0)),(15,(Qp g))],[(QB p0.bx p0.bc p0.ek p0.bm p0.ed p0.dk p0.ep)]⟩) (λd=>Qe 1<|lJ 16 V (λV=>re 4 ⟨kr,zf⟩) (λV=>re 4 ⟨kr,zf⟩)) (λhJ=>lJ 11 c (λV=>Qe 4 zf) (λV=>Qe 1 (bi V λr k V=>cp (QgJ k)<|Qe 2 zf))))) (λhJ=>gs 7 c (λV=>Qe 3 zf) (λV=>Qe 3 zf))))) (λd=>lf V (λV=>ge 1<|Qn zf) (λV=>Qm<|Qh<|ge 2<|Ql<|ge 2<|mQ V (λV=>Qh<|CK<|Qe 4 (bi V λl c V=>ZF (j:=8) (λd=>⟨sl d 88 [(2,(.ptr 0 0)),(32,(Qp l))],[(QB p0.bx p0.bc p0.ek p0.bm p0.ed p0.dk p0.ep)]⟩) (λd=>Qe 1 (bi V λm c V=>ZF (j:=14) (λd=>⟨sl d 88 [(2,(.ptr 0 0)),(38,(Qp m))],[(QB p0.bx p0.bc p0.ek p0.bm p0.ed p0.dk p0.ep)]⟩) (λd=>Qe 1 (bi V λn c V=>ZF (j:=19) (λd=>⟨sl d 88 [(2,(.ptr 0 0)),(43,(Qp n))],[(QB p0.bx p0.bc p0.ek p0.bm p0.ed p0.dk p0.ep)]⟩) (λd=>Qe 1 (bi V λp c V=>ZF (j:=24) (λd=>⟨sl d 88 [(2,(.ptr 0 0)),(48,(Qp p))],[(QB p0.bx p0.bc p0.ek p0.bm p0.ed p0.dk p0.ep)]⟩) (λd=>Qe 1<|lJ 49 V (λV=>re 5 ⟨kr,Qn zf⟩) (λV=>re 5 ⟨kr,Qn zf⟩)) (λhJ=>lJ 44 c (λV=>Qe 4 zf) (λV=>Qe 4 zf)))) (λhJ=>lJ 39 c (λV=>Qe 4 zf) (λV=>Qe 4 zf)))) (λhJ=>lJ 33 c (λV=>Qe 2<|QM Qg p0.bm<|Qe 2 zf) (λV=>Qe 5 zf)))) (λhJ=>Ba 28 c (λV=>Qe 4 zf) (λV=>Qe 4 zf)))) (λV=>ge 2<|mQ V (λV=>Qh<|CK<|Qe 2<|QM Qg p0.bm<|Qe 3 (bi V λq c V=>ZF (j:=10) (λd=>⟨sl d 88 [(2,(.ptr 0 0)),(65,(Qp q))],[(QB p0.bx p0.bc p0.ek p0.bm p0.ed p0.dk p0.ep)]⟩) (λd=>Qe 1 (bi V λe c V=>ZF (j:=15) (λd=>⟨sl d 88 [(2,(.ptr 0 0)),(70,(Qp e))],[(QB p0.bx p0.bc p0.ek p0.bm p0.ed p0.dk p0.ep)]⟩) (λd=>Qe 1<|lJ 71 V (λV=>re 5 ⟨kr,Qn zf⟩) (λV=>re 5 ⟨kr,Qn zf⟩)) (λhJ=>lJ 66 c (λV=>Qe 4 zf) (λV=>Qe 4 zf)))) (λhJ=>Ba 61 c (λV=>Qe 4 zf) (λV=>Qe 4 zf)))) (λV=>ge 2<|mQ V (λV=>gr 2<|QM Qg p0.bm<|Qe 3<|Ba 83 V (λV=>re 5<|Qn zf) (λV=>re 5<|Qn zf)) (λV=>Qm<|ge 1<|Qn zf))))))
def Xw:(fJ×(List Qk)×Int×Int)->Option (Unit⊕ Unit)|(p0,p1,d,c)=>if c<(I p0:Int)then idx p1 d>>=λe=>idx e.hi c>>=λf=>idx p0 c>>=λg=>if f>g then O (Naf ())else Xw (p0,p1,d,(W<|c+1))else O (Nag ())
 partial_fixpoint
def Qdt:∀x r,Xw x=O r->match x with|(p0,p1,c,e)=>LQ f47 47 [1,0,1,0,0,1,0,0,1,1,0,0] 0 ⟨kp 80 [(0,(La p0)),(1,(Oc p1)),(5,(Qd c)),(6,(Qd e))],[]⟩ (P2 .ret (λ_ d=>⟨sl d 80 [(4,(Qp U))],[]⟩) (.exit 2) (λ_ d=>⟨sl d 80 [(0,(La p0)),(1,(Oc p1)),(5,(Qd c))],[]⟩) r):=by refine Xw.partial_correctness _ (λXw Qdt x r V=>?_);obtain⟨p0,p1,c,e⟩:=x;exact lp<|Qh<|gr 2<|QM Qg p0<|re 1<|ri V (λV=>Qm<|Qh<|Ql<|Qh<|Zd<|Qe 2 (QE 2 Qk.b8 V λf V=>Qe 3 (QE 1 Qg V λg V=>Qe 3 (QE 1 Qg V λj V=>re 2 ⟨kr,ri V (λV=>ge 1<|Qn zf) (λV=>Qm<|gp<|re 3<|Qdt _ _ V _ kr)⟩)))) (λV=>QD zf)
def Yo:((List Qk)×fJ×Int)->Option (Unit⊕ Unit)|(p1,p0,c)=>if c<(I p1:Int)then(idx p1 c>>=λd=>Sd d>>=λe=>if e=U then O J else idx p1 c>>=λf=>O<|(I f.lo:Int) !=(I p0:Int))>>=λ(g:Bool)=>if g=J then O (Naf ())else(Xw (p0,p1,c,0)>>=λ|.inl _=>O (Naf ())|.inr _=>Yo (p1,p0,(W<|c+1)))else O (Nag ())
 partial_fixpoint
def Qds:∀x r,Yo x=O r->match x with|(p1,p0,c)=>LQ f47 47 [1,0,1,0,0] 0 ⟨kp 80 [(0,(La p0)),(1,(Oc p1)),(5,(Qd c))],[]⟩ (P2 .ret (λ_ d=>⟨sl d 80 [(4,(Qp U))],[]⟩) (.exit 0) (λ_ d=>⟨sl d 80 [(0,(La p0)),(1,(Oc p1))],[]⟩) r):=by refine Yo.partial_correctness _ (λYo Qds x r V=>?_);obtain⟨p1,p0,c⟩:=x;exact lp<|Qh<|gr 2<|QM Qk.b8 p1<|re 1<|ri V (λV=>Qm<|Qh<|Ql<|Qh<|Qh (bi V λe k V=>Zm (λd=>⟨sl d 80 [(0,(La p0)),(1,(Oc p1)),(5,(Qd c)),(33,(Qp e))],[]⟩) (have V:=k;gp (Qe 2 (QE 2 Qk.b8 V λg V=>Qe 1 (bi V λj l V=>cp (QfS l)<|Qe 2<|RH 23 V (λV=>re 10 zf) (λV=>Qe 2 (QE 2 Qk.b8 V λf V=>Qe 2<|QM Qg f.lo<|Qe 1<|QM Qg p0<|re 2 zf)))))) (λd=>lf V (λV=>ge 1<|Qn zf) (λV=>Qm<|ge 1<|Ql (pG V (Qdt _) (λ_ d V=>zf) λ_ d V=>gp<|re 3<|Qds _ _ V _ kr))))) (λV=>QD zf)
def Yp:((List Qk)×(List fJ)×Int×Int×Int)->Option Int|(p1,d,e,f,c)=>if c<(I p1:Int)then idx p1 c>>=λg=>idx d e>>=λj=>Rm (g,j)>>=λk=>if k=J then Yp (p1,d,e,(W<|f+1),(W<|c+1))else Yp (p1,d,e,f,(W<|c+1))else O f
 partial_fixpoint
def Wi:∀x r,Yp x=O r->match x with|(p1,c,e,f,g)=>LQ f47 47 [1,1,1,0,1,0,0,1,0,0,1,0,1,0,0] 0 ⟨kp 80 [(1,(Oc p1)),(7,(Zq c)),(8,(Qd e)),(9,(Qd f)),(10,(Qd g))],[]⟩ (P1 (.exit 6) (λk d=>⟨sl d 80 [(1,(Oc p1)),(7,(Zq c)),(8,(Qd e)),(9,(Qd k))],[]⟩) r):=by refine Yp.partial_correctness _ (λYp Wi x r V=>?_);obtain⟨p1,c,e,f,g⟩:=x;exact lp<|Qh<|gr 2<|QM Qk.b8 p1<|re 1<|ri V (λV=>Qm<|Qh<|Ql<|Qh<|Zd<|Qe 2 (QE 2 Qk.b8 V λm V=>Qe 3 (bi V λj n V=>X9 1 (λl=>fS.ew<|(Naa Qg) l) c e j (es:=(Naa (λl=>fS.ew<|(Naa Qg) l)) c) (d:=(Lb j)) rfl n rfl rfl<|Qe 1 (bi V λp n V=>cp (QgD n)<|Q6 ⟨kr,lf V (λV=>gp<|re 3<|gp<|re 3<|Wi _ _ V _ kr) (λV=>Qm<|gp<|re 3<|Wi _ _ V _ kr)⟩)))) (λV=>QD zf)
def Y5:((List fJ)×(List Qk)×Int)->Option (Unit⊕ Unit)|(c,p1,d)=>if d<(I c:Int)then Yp (p1,c,d,0,0)>>=λe=>if e≠1 then O (Naf ())else Y5 (c,p1,(W<|d+1))else O (Nag ())
 partial_fixpoint
def Qdu:∀x r,Y5 x=O r->match x with|(c,p1,e)=>LQ f47 47 [1,1,1,0,1,0,0] 0 ⟨kp 80 [(1,(Oc p1)),(7,(Zq c)),(8,(Qd e))],[]⟩ (P2 .ret (λ_ d=>⟨sl d 80 [(4,(Qp U))],[]⟩) (.exit 4) (λ_ d=>⟨sl d 80 [],[]⟩) r):=by refine Y5.partial_correctness _ (λY5 Qdu x r V=>?_);obtain⟨c,p1,e⟩:=x;exact lp<|Qh<|gr 2<|Ff (λl=>fS.ew<|(Naa Qg) l) c (es:=(Naa (λl=>fS.ew<|(Naa Qg) l)) c) rfl<|re 1<|ri V (λV=>Qm<|Qh<|Ql<|ge 1<|Qh<|ge 1<|Ql (kY V (Wi _) λf d V=>ge 2<|zz V (λV=>ge 1<|Qn zf) (λV=>Qm<|gp<|re 3<|Qdu _ _ V _ kr))) (λV=>QD zf)
def Wm:(fJ×(List Qk))->Option Bool|(p0,p1)=>(Yo (p1,p0,0)>>=λ|.inl _=>O U|.inr _=>ZZ p0>>=λc=>(Y5 (c,p1,0)>>=λ|.inl _=>O U|.inr _=>O J))
def Qhj{p0 p1 r0}(V:Wm (p0,p1)=O r0):FQ 47 [(Lb p0),(.ew<|(Naa Qk.b8) p1)] (Qp r0):=by unfold Wm at V;exact fp (fn:=f47) rfl<|ge 1<|Qh<|ge 1<|Ql (pG V (Qds _) (λ_ d V=>zf) λ_ d V=>gr 1 (bi V λc e V=>cp (Vv e)<|re 1<|Qh<|ge 1<|Ql (pG V (Qdu _) (λ_ d V=>zf) λ_ d V=>ge 1<|Qn zf)))
def YL:((List Qc)×fJ×(List Qk)×Int)->Option ((fJ×fJ×Nat)⊕ (List Qk))|(p1,p0,e,c)=>if c<(I p1:Int)then idx p1 c>>=λd=>(Sd d.box>>=λ(f:Bool)=>(if f=U then O J else Jb d.box>>=λg=>O g)>>=λ(j:Bool)=>(if j=J then O J else idx p1 c>>=λk=>JI (k.be,(I p0:Int))>>=λl=>O<|!l)>>=λ(m:Bool)=>if m=J then O J else if c>0 then idx p1 (W<|c - 1)>>=λn=>J9 (n.box.lo,d.box.lo)>>=λp=>O (!p)else O U)>>=λ(q:Bool)=>if q=J then O (Naf (d.box.lo,d.box.hi,I e))else app 48 e ([d.box]:List Qk)>>=λr=>YL (p1,p0,r,(W<|c+1))else O (Nag e)
 partial_fixpoint
def Qc8:∀x r,YL x=O r->match x with|(p1,p0,c,f)=>LQ f14 14 [1,1,0,1,0,0] 1 ⟨kp 61 [(0,(La p0)),(1,(QL p1)),(5,(U1 c)),(6,(Qd f))],[(.tok 80<|I c)]⟩ (P2 .ret (λ(l,m,n) d=>⟨sl d 61 [(4,(Qp U))],[(.tok 80 n),(Qz l m)]⟩) (.exit 0) (λk d=>⟨sl d 61 [(0,(La p0)),(5,(U1 k))],[(.tok 80<|I k)]⟩) r):=by
 refine YL.partial_correctness _ (λYL Qc8 x r V=>?_);obtain⟨p1,p0,c,f⟩:=x
 exact lp<|Qh<|gr 2<|QM Qc.b8 p1<|re 1<|ri V (λV=>Qm<|Qh<|Ql<|gr 2 (QE 9 Qc.b8 V λe V=>re 4<|Qh<|Qh (bi V λp q V=>Zm (λd=>⟨sl d 61 [(0,(La p0)),(1,(QL p1)),(5,(U1 c)),(6,(Qd f)),(7,(.ptr 1 0)),(53,(Qp p))],[(.tok 80<|I c),(Qz e.box.lo e.box.hi)]⟩) (have V:=q;Pj (Qe 1 (bi V λv g V=>cp (QfS g)<|Qe 2 (bi V λs q V=>ZF (j:=7) (λd=>⟨sl d 61 [(0,(La p0)),(1,(QL p1)),(5,(U1 c)),(6,(Qd f)),(7,(.ptr 1 0)),(25,(Qp s))],[(.tok 80<|I c),(Qz e.box.lo e.box.hi)]⟩) (λd=>Qe 1 (bi V λt q V=>ZF (j:=18) (λd=>⟨sl d 61 [(0,(La p0)),(1,(QL p1)),(5,(U1 c)),(6,(Qd f)),(7,(.ptr 1 0)),(36,(Qp t))],[(.tok 80<|I c),(Qz e.box.lo e.box.hi)]⟩) (λd=>Qe 1<|lJ 37 V (λV=>re 16 ⟨kr,zf⟩) (λV=>Qe 3<|gs 40 V (λV=>Qe 3 (QE 9 Qc.b8 V λw V=>Qe 5 (bi V λy g V=>cp (Qgq g)<|re 3 ⟨kr,zf⟩))) (λV=>re 13 ⟨kr,zf⟩))) (λhJ=>lJ 26 q (λV=>Qe 10 zf) (λV=>Qe 2 (QE 9 Qc.b8 V λz V=>Qe 3<|QM Qg p0 (bi V λA g V=>cp (Qhn g)<|Qe 2 zf)))))) (λhJ=>RH 22 q (λV=>Qe 3 zf) (λV=>Qe 1 (bi V λB g V=>cp (QfU g)<|Qe 1 zf))))))) (λd=>lf V (λV=>ge 1<|Qn zf) (λV=>Qm<|gp<|Qe 3 (bi V λu g V=>YA 80 2 48 0 Qk.b8 c ([e.box]:List Qk) u (xs:=(Naa Qk.b8) c) (es:=(Naa Qk.b8) ([e.box]:List Qk)) (L:=(Naa Qk.b8)) yC rfl rfl Qk.fit g<|re 1<|gp<|re 3<|Qc8 _ _ V _ kr)))))) (λV=>QD zf)
def Ub:(fJ×(List Qc))->Option Bool|(p0,p1)=>(YL (p1,p0,([]:List Qk),0)>>=λ|.inl (e,f,g)=>O U|.inr c=>Wm (p0,c)>>=λd=>O d)
def Qg5{p0 p1 r0}(V:Ub (p0,p1)=O r0):FQ 14 [(Lb p0),(.ew<|(Naa Qc.b8) p1)] (Qp r0):=by unfold Ub at V;exact fp (fn:=f14) rfl<|ge 1<|ge 1<|Qh<|ge 1<|Ql (pG V (Qc8 _) (λ⟨c,e,f⟩ d V=>zf) λg d V=>gr 2 (bi V λj k V=>cp (Qhj k)<|re 1<|Qn zf))
def DP:∀(s t p q:fJ),I s=I t->I p=I q->Sm (I<|p++s)->Y2 (p++s,q++t,(I p:Int))=O (if s=t then .inr ()else .inl ())
 |[],[],p,q,_,_,c=>by rw[Y2];simp only[Q1,ai,ak]
 |x::s,y::t,p,q,f,d,c=>by rw[Y2];have e:=DP s t (p++[x]) (q++[y]) (by simpa using f) (by simp[d]) (by rw[<-Qs];exact c);rw[<-Qs,<-Qs]at e;simp only[QX,ak,Qv,Qf,kQ c,e];rw[d,Qv];by_cases g:x=y<;>simp[g,Qf]
 |[],_::_,_,_,h,_,_=>by cases h
 |_::_,[],_,_,h,_,_=>by cases h
def MN(a b:fJ)(g:Sm (I a)):YV (a,b)=O (decide<|a=b):=by
 simp only[YV];by_cases h:I a=I b
 .have e:=DP a b [] [] h rfl g;have d:¬((I a:Int)≠(I b:Int)):=by omega
  simp only[d,ai];have f:Y2 (a,b,0)=_:=e;rw[f];by_cases c:a=b
  .subst c;simp
  .rw[ae c,y3 c];rfl
 .have d:((I a:Int)≠(I b:Int)):=by omega
  have f:a≠b:=λe=>h (by rw[e])
  rw[aj d,y3 f]
def fQ(l:fJ):Int:=l.foldl (· * ·) 1
def mG(l:fJ):Bool:=l.any λd=>decide<|d<0
def mK(l:fJ):Bool:=l.any λd=>decide<|d>65536
def tw(l:fJ):Int×Int:=if mG l then(0,6)else if mK l then(0,7)else if fQ l>65536 then(0,7)else(fQ l,0)
def fY(l:fJ):Int:=if mG l then 6 else if I l>16\/mK l=J\/fQ l>65536 then 7 else 0
def jf(l:fJ):Int:=if fY l=0 then fQ l else 0
def sg:∀(l:fJ) (x:Int),l.foldl (· * ·) x=x*l.foldl (· * ·) 1
 |[],x=>by simp
 |d::l,x=>by rw[aY,sg l<|x*d,aY,sg l<|1*d,bX,bo]
def gx(d:Int)(l:fJ):fQ (d::l)=d*fQ l:=by rw[fQ,aY,sg,bX];rfl
def iC:fQ []=1:=rfl
def kB(a b:fJ):fQ (a++b)=fQ a*fQ b:=by rw[fQ,fQ,fQ,dq,sg]
def gu:∀{l:fJ},(∀d∈l,1<=d)->1<=fQ l
 |[],_=>by simp[fQ]
 |d::l,h=>by have c:=gu (l:=l) (λx e=>h x<|jG _ e);have f:=h d (jM ..);rw[gx];have:=bn f c y9 y9;omega
def sS{l:fJ}(h:(0:Int)∈l):fQ l=0:=by obtain⟨s,t,rfl⟩:=List.append_of_mem h;rw[kB,gx];simp
def uw(d:Int)(l:fJ):mG (d::l)=(decide (d<0)||mG l):=rfl
def Ag(d:Int)(l:fJ):mK (d::l)=(decide (d>65536)||mK l):=rfl
def HX:∀(s p:fJ) (z:Bool),Sm (I<|p++s)->ZL (p++s,z,(I p:Int))=O (if mG s then .inl ()else .inr (z||s.any (· ==0)))
 |[],p,z,c=>by rw[ZL];simp only[Q1,ai];simp[mG]
 |x::s,p,z,c=>by
  rw[ZL];have d:=λz=>HX s (p++[x]) z (by rw[<-Qs];exact c)
  rw[<-Qs]at d;simp only[QX,ak,Qv,Qf,kQ c,d,uw];by_cases hn:x<0
  .simp[hn]
  .cases z<;>by_cases e:x=0<;>simp[hn,e]
def GD:∀(s p:fJ) (z:Bool),Sm (I<|p++s)->Z3 (p++s,z,(I p:Int))=O (if mK s then .inl ()else .inr ())
 |[],p,z,c=>by rw[Z3];simp only[Q1,ai];simp[mK]
 |x::s,p,z,c=>by rw[Z3];have d:=GD s (p++[x]) z (by rw[<-Qs];exact c);rw[<-Qs]at d;simp only[QX,ak,Qv,Qf,kQ c,d,Ag];by_cases hn:x>65536<;>simp[hn]
def Hj:∀(s p:fJ) (m:Int),Sm (I<|p++s)->(∀d∈s,1<=d/\d<=65536)->1<=m->m<=65536->Z4 (p++s,m,(I p:Int))=O (if m*fQ s>65536 then .inl ()else .inr (m*fQ s))
 |[],p,m,e,f,g,j=>by rw[Z4];simp only[Q1,ai,iC,bL];rw[ae y9]
 |x::s,p,m,e,f,g,j=>by
  rw[Z4];have k:=f x (jM ..);have b1:=bn j k.2 y9 y9;have b2:=bn g k.1 y9 y9;have hw:W (m*x)=m*x:=kP y9 y9;have c:∀d∈s,1<=d/\d<=65536:=λd h=>f d<|jG _ h
  simp only[QX,ak,Qv,Qf,kQ e,hw,gx];rw[<-bo];by_cases hn:m*x>65536
  .have q:=gu (l:=s) (λd h=>(c d h).1)
   have:m*x*1<=m*x*fQ s:=aZ q y9
   rw[aj hn,aj y9]
  .have n:=Hj s (p++[x]) (m*x) (by rw[<-Qs];exact e) c y9 y9;rw[<-Qs]at n;rw[ae hn,n]
def CD{l:fJ}(h:mG l=U):∀d∈l,0<=d:=λd c=>by have:=bF.1 h d c;simp at this;omega
def Bu{l:fJ}(h:mK l=U):∀d∈l,d<=65536:=λd c=>by have:=bF.1 h d c;simp at this;omega
def yh(l:fJ)(j:Sm (I l)):JZ l=O (tw l):=by
 have p:ZL (l,U,0)=_:=HX l [] U j;have q:∀z,Z3 (l,z,0)=_:=λz=>GD l [] z j
 simp only[JZ,p,Qf,tw];by_cases hn:mG l=J
 .simp[hn]
 .have c:mG l=U:=by simpa using hn
  simp only[c,j6,ai,cL,q,Qf];by_cases n:mK l=J
  .simp[n]
  .have f:mK l=U:=by simpa using n
   simp only[f,j6,ai];by_cases k:(l.any (· ==0))=J
   .have:fQ l=0:=sS (by simpa using k)
    simp[k,this]
   .have g:l.any (· ==0)=U:=(aS _).mp k
    have r:Z4 (l,1,0)=_:=Hj l [] 1 j (λd m=>by
     have t:=CD c d m;have u:=Bu f d m;have v:d≠0:=λe=>by have:=bF.1 g d m;simp[e]at this
     omega) y9 y9
    simp only[g,j6,ai,r,Qf,bX];by_cases s:fQ l>65536<;>simp[s]
def Dh:∀(s p:fJ),Sm (I<|p++s)->Y1 (p++s,(I p:Int))=O (if mG s then .inl ()else .inr ())
 |[],p,c=>by rw[Y1];simp only[Q1,ai];simp[mG]
 |x::s,p,c=>by rw[Y1];have d:=Dh s (p++[x]) (by rw[<-Qs];exact c);rw[<-Qs]at d;simp only[QX,ak,Qv,Qf,kQ c,d,uw];by_cases hn:x<0<;>simp[hn]
def nV(l:fJ)(c:Sm (I l)):Ja l=O (fY l):=by
 have e:Y1 (l,0)=_:=Dh l [] c;simp only[Ja,e,Qf,fY,yh l c];by_cases hn:mG l=J
 .simp[hn]
 .simp only[hn,ai,tw,j6];by_cases hl:I l>16
  .have:(I l:Int)>16:=by omega
   simp[hl,this,Qf]
  .have:¬(I l:Int)>16:=by omega
   by_cases d:mK l=J
   .simp[hl,this,d,Qf]
   .by_cases f:fQ l>65536<;>simp[hl,this,d,f,Qf]
def Ej:∀(s p:fJ),Sm (I<|p++s)->∃r,QG (p++s,(I p:Int))=O r/\(mG s=J->∃j:Nat,r=.inl (j:Int))/\(mG s=U->r=.inr ())
 |[],p,c=>by rw[QG];simp only[Q1,ai];exact⟨_,rfl,λh=>(by cases h),λ_=>rfl⟩
 |x::s,p,c=>by
  rw[QG];obtain⟨r,d,e,f⟩:=Ej s (p++[x]) (by rw[<-Qs];exact c);rw[<-Qs]at d;simp only[QX,ak,Qv,Qf,kQ c,VY,uw];by_cases hn:x<0
  .simp only[hn,decide_true,ak];exact⟨_,rfl,λ_=>⟨_,rfl⟩,λh=>by simp at h⟩
  .simp only[hn,y5,j6,ai,cL];exact⟨r,d,e,f⟩
def MA(l:fJ)(c:Sm (I l)):Zh l=O (mG l):=by
 obtain⟨r,d,f,g⟩:=Ej l [] c;have e:QG (l,0)=O r:=d;simp only[Zh,ZD,e,Qf];cases hn:mG l
 .rw[g hn];rfl
 .obtain⟨j,rfl⟩:=f hn;simp[Qf]
def DL:∀(s p:fJ),Sm (I<|p++s)->∃r,QH (p++s,(I p:Int))=O r/\(mK s=J->∃j:Nat,r=.inl (j:Int))/\(mK s=U->r=.inr ())
 |[],p,c=>by rw[QH];simp only[Q1,ai];exact⟨_,rfl,λh=>(by cases h),λ_=>rfl⟩
 |x::s,p,c=>by
  rw[QH];obtain⟨r,d,e,f⟩:=DL s (p++[x]) (by rw[<-Qs];exact c);rw[<-Qs]at d;simp only[QX,ak,Qv,Qf,kQ c,VE,Ag];by_cases hn:x>65536
  .simp only[hn,decide_true,ak];exact⟨_,rfl,λ_=>⟨_,rfl⟩,λh=>by simp at h⟩
  .simp only[hn,y5,j6,ai,cL];exact⟨r,d,e,f⟩
def NW(l:fJ)(c:Sm (I l)):Zi l=O (mK l):=by
 obtain⟨r,d,f,g⟩:=DL l [] c;have e:QH (l,0)=O r:=d;simp only[Zi,ZE,e,Qf];cases hn:mK l
 .rw[g hn];rfl
 .obtain⟨j,rfl⟩:=f hn;simp[Qf]
def Ts(l:fJ):Int:=if mG l then 6 else if mK l then 7 else 0
def CB(l:fJ)(c:Sm (I l)):TU l=O (Ts l):=by
 simp only[TU,MA l c,NW l c,Qf,Ts];by_cases d:mG l=J
 .simp[d]
 .by_cases e:mK l=J<;>simp[d,e]
def DM(v:Int):∀(s p:fJ),Sm (I<|p++s)->∃r,Zj (p++s,v,(I p:Int))=O r/\(s.any (v== ·)=J->∃j:Nat,r=.inl (j:Int))/\(s.any (v== ·)=U->r=.inr ())
 |[],p,c=>by rw[Zj];simp only[Q1,ai];exact⟨_,rfl,λh=>(by cases h),λ_=>rfl⟩
 |x::s,p,c=>by
  rw[Zj];obtain⟨r,d,e,f⟩:=DM v s (p++[x]) (by rw[<-Qs];exact c);rw[<-Qs]at d;simp only[QX,ak,Qv,Qf,kQ c];by_cases hn:v=x
  .rw[aj hn];exact⟨_,rfl,λ_=>⟨_,rfl⟩,λh=>by simp[hn]at h⟩
  .rw[ae hn];exact⟨r,d,λh=>e (by simpa[hn]using h),λh=>f (by simpa[hn]using h)⟩
def DT(l:fJ)(v:Int)(c:Sm (I l)):Y8 (l,v)=O (l.any (v== ·)):=by
 obtain⟨r,d,f,g⟩:=DM v l [] c;have e:Zj (l,v,0)=O r:=d;simp only[Y8,JE,e,Qf];cases hn:l.any (v== ·)
 .rw[g hn];rfl
 .obtain⟨j,rfl⟩:=f hn;simp[Qf]
def Sj{a b:Int}(f:1<=a/\a<=65536)(g:1<=b/\b<=65536):U6 (a,b,65536)=O (if a*b>65536 then(0,U)else(a*b,J)):=by
 have m1:=bn f.2 g.2 y9 y9;have m2:=bn f.1 g.1 y9 y9;have d:(65536:Int).tdiv b=65536/b:=dW y9;have j:(65536:Int)/b<=65536:=eF _ y9;have k:0<=(65536:Int)/b:=di y9 y9
 have l:zl 65536 b=O (65536/b):=by rw[zl,ae y9,d,kP y9 y9]
 have e:(a>65536/b)=(a*b>65536):=by have:=Int.ediv_lt_iff_lt_mul (a:=65536) (b:=a) (c:=b) y9;simp only[gt_iff_lt,eq_iff_iff];exact this
 simp only[U6,show¬a<0 by omega,show¬b<0 by omega,show¬a>65536 by omega,show¬b>65536 by omega,show b>0 by omega,ai,ak,l,Qf,e,y5,j6];by_cases h:a*b>65536
 .simp[h]
 .simp only[h,y5,Qf,j6,ai];rw[kP y9 y9]
def Dy:∀(s p:fJ) (m:Int),Sm (I<|p++s)->(∀d∈s,1<=d/\d<=65536)->1<=m->m<=65536->
  ∃r,QY (p++s,m,(I p:Int))=O r/\(m*fQ s>65536->∃v,r=.inl v)/\(¬m*fQ s>65536->r=.inr (m*fQ s))
 |[],p,m,e,f,g,j=>by rw[QY];simp only[Q1,ai,iC,bL];exact⟨_,rfl,λh=>y9,λ_=>rfl⟩
 |x::s,p,m,e,f,g,j=>by
  rw[QY];have k:=f x (jM ..);have c:∀d∈s,1<=d/\d<=65536:=λd h=>f d<|jG _ h
  have b2:=bn g k.1 y9 y9;simp only[QX,ak,Qv,Qf,kQ e,Vp,Sj ⟨g,j⟩ k,gx];rw[<-bo];by_cases hn:m*x>65536
  .have q:=gu (l:=s) (λd h=>(c d h).1)
   have:m*x*1<=m*x*fQ s:=aZ q y9
   simp only[hn,ak,Qf];exact⟨_,rfl,λ_=>⟨_,rfl⟩,λh=>absurd h y9⟩
  .obtain⟨r,n,t,u⟩:=Dy s (p++[x]) (m*x) (by rw[<-Qs];exact e) c y9 y9;rw[<-Qs]at n;simp only[hn,ai,Qf,jO];exact⟨r,n,t,u⟩
def vJ(l:fJ)(m:Sm (I l)):T1 l=O (tw l):=by
 simp only[T1,CB l m,Qf,Y6,tw,Ts];by_cases hn:mG l=J
 .simp[hn,Qf]
 .have c:mG l=U:=(aS _).mp hn;by_cases p:mK l=J
  .simp[hn,p,Qf]
  .have f:mK l=U:=(aS _).mp p;simp only[c,f,j6,ai,ak,DT l 0 m,Qf];by_cases j:l.any ((0:Int)== ·)=J
   .have h0:(0:Int)∈l:=by
     obtain⟨x,t,u⟩:=dv.1 j
     have:(0:Int)=x:=by simpa using u
     rw[this];exact t
    have:=sS h0;simp[j,this,Qf]
   .have g:∀d∈l,1<=d/\d<=65536:=λd n=>by
     have z:=CD c d n;have A:=Bu f d n;have B:d≠0:=λe=>j<|dv.2 ⟨d,n,by simp[e]⟩
     omega
    obtain⟨r,w,q,s⟩:=Dy l [] 1 m g y9 y9;have y:QY (l,1,0)=O r:=w;rw[bX]at q s;simp only[j,ai,Qf,Y7,y,ne_eq,not_true];by_cases k:fQ l>65536
    .obtain⟨v,rfl⟩:=q k;simp[k,Qf]
    .rw[s k];simp[k,Qf]
def nl(l:fJ)(f:Sm (I l)):TB l=O (fY l):=by
 simp only[TB,vJ l f,Qf,tw,fY];by_cases hn:mG l=J
 .simp[hn,Qf]
 .by_cases hl:I l>16
  .have c:(I l:Int)>16:=by omega
   by_cases d:mK l=J
   .simp[hn,d,hl,c,Qf]
   .by_cases e:fQ l>65536<;>simp[hn,d,e,hl,c,Qf]
  .have c:¬(I l:Int)>16:=by omega
   by_cases d:mK l=J
   .simp[hn,d,hl,c,Qf]
   .by_cases e:fQ l>65536<;>simp[hn,d,e,hl,c,Qf]
def lu(l:fJ)(d:Sm (I l)):Yn l=O (jf l):=by
 simp only[Yn,nV l d,Qf,yh l d,jf];by_cases hc:fY l=0
 .have:(tw l).1=fQ l:=by
   unfold fY at hc;unfold tw;by_cases hn:mG l=J
   .simp[hn]at hc
   .by_cases c:mK l=J
    .simp[hn,c]at hc
    .by_cases e:fQ l>65536
     .simp[hn,c,e]at hc
     .simp[hn,c,e]
  simp[hc,this]
 .simp[hc]
def iz:fJ->fJ->Bool
 |[],[]=>J
 |n::s,x::i=>(decide (0<=x) &&decide (x<n)) &&iz s i
 |_,_=>U
def iv:∀{s i:fJ},iz s i=J->I s=I i
 |[],[],_=>rfl
 |n::s,x::i,h=>by simp only[iz,jE]at h;simp[iv h.2]
 |[],_::_,h=>by cases h
 |_::_,[],h=>by cases h
def F6:∀{s i:fJ},I s≠I i->iz s i=U
 |[],[],h=>absurd rfl h
 |n::s,x::i,h=>by rw[iz,F6 (λe=>h (by simp[e])),dK]
 |[],_::_,_=>rfl
 |_::_,[],_=>rfl
def lC:∀{s i:fJ},iz s i=J->∀k,k<I s->0<=i.getD k 0/\i.getD k 0<s.getD k 0
 |[],_,_,k,c=>by cases c
 |n::s,x::i,h,k,c=>by
  simp only[iz,jE,zE]at h;cases k with
  |zero=>simpa using h.1
  |succ k=>simpa using lC h.2 k (by simpa using c)
 |_::_,[],h,_,_=>by cases h
def uK:∀{s i:fJ},I s=I i->(∀k,k<I s->0<=i.getD k 0/\i.getD k 0<s.getD k 0)->iz s i=J
 |[],[],_,_=>rfl
 |n::s,x::i,h,c=>by simp only[iz,jE,zE];exact⟨by simpa using c 0 yB,uK (by simpa using h) λk d=>by simpa using c (k+1) (by simpa using d)⟩
 |[],_::_,h,_=>by cases h
 |_::_,[],h,_=>by cases h
def iV{l:fJ}{j:Nat}{v:Int}(h:j<I l):iM l (j:Int) v=O (l.set j v):=by simp[iM,h]
def fX{p:Prop}[Decidable p](h:p):QN p=O ():=aj h
def oX{c:Type}{p s:List c}{x y:c}:(p++x::s).set (I p) y=(p++[y])++s:=by simp
def nH(l st:fJ):fJ:=Nac (λx n=>W<|x+n) l st
def MW{l st:fJ}(h:I l=I st):I (nH l st)=I l:=by simp[nH,h]
def Th(l s:fJ)(j r:Int):Prop:=∀a∈l.zip s,a.1=j->r<=a.2
def RS(d p0:Qb):∀(s t p q:fJ),d.aa=p++s->p0.eh=q++t->I s=I t->I p=I q->Sm (I<|p++s)->
  ∃o,Zn (d,p0,(I p:Int))=O o/\(o=.inr ()->∀x∈t,0<=x/\x<(I p0.aa:Int))
 |[],[],p,q,c,f,_,g,j=>by rw[Zn];simp only[c,Q1,ai];exact⟨_,rfl,λ_ x h=>by cases h⟩
 |n::s,x::t,p,q,c,f,r,g,j=>by
  rw[Zn];obtain⟨o,e,u⟩:=RS d p0 s t (p++[n]) (q++[x]) (by rw[c];simp) (by rw[f];simp) (by simpa using r) (by simp[g]) (by rw[<-Qs];exact j);have hi:idx (q++x::t) (I p:Int)=O x:=by rw[g];exact Qv
  simp only[c,f,QX,ak,hi,Qf,kQ j,e];by_cases k:x<0
  .simp only[k,ak,Qf];exact⟨_,rfl,λh=>by cases h⟩
  .by_cases m:x>=(I p0.aa:Int)
   .simp only[k,m,ai,decide_true,Qf,ak];exact⟨_,rfl,λh=>by cases h⟩
   .simp only[k,m,ai,y5,Qf,j6];refine⟨o,rfl,λh y l=>?_⟩;rcases ar.1 l with rfl|l
    .omega
    .exact u h y l
 |[],_::_,_,_,_,_,h,_,_=>by cases h
 |_::_,[],_,_,_,_,h,_,_=>by cases h
def Na(k p0:Qb)(j:Int):∀(s t p q:fJ) (v:Int),k.aa=p++s->p0.eh=q++t->I s=I t->I p=I q->Sm (I<|p++s)->
  ∃r,QT (k,p0,j,v,(I p:Int))=O r/\((∀n∈s,0<=n)->(0<=v->r<=v)/\Th t s j r)
 |[],[],p,q,v,l,w,_,y,z=>by rw[QT];simp only[l,Q1,ai];exact⟨_,rfl,λ_=>⟨λ_=>aG _,λa c=>by cases c⟩⟩
 |n::s,x::t,p,q,v,l,w,D,y,z=>by
  rw[QT];have A:=λv=>Na k p0 j s t (p++[n]) (q++[x]) v (by rw[l];simp) (by rw[w];simp) (by simpa using D) (by simp[y]) (by rw[<-Qs];exact z)
  have hi:idx (q++x::t) (I p:Int)=O x:=by rw[y];exact Qv
  simp only[l,w,QX,ak,hi,Qf,Qv,kQ z]
  have new:∃r,QT (k,p0,j,n,(I (p++[n]):Int))=O r/\((∀m∈n::s,0<=m)->r<=n/\Th (x::t) (n::s) j r):=by
   obtain⟨r,e,d⟩:=A n;refine⟨r,e,λh=>?_⟩;obtain⟨g1,f⟩:=d (λm V=>h m<|jG _ V);have u:=g1 (h n<|jM ..)
   exact⟨u,λa c=>by
    rcases ar.1 c with rfl|c
    .exact λ_=>u
    .exact f a c⟩
  by_cases g:x=j
  .simp only[g,ak];by_cases B:v<0
   .simp only[B,ak,Qf];obtain⟨r,e,d⟩:=new;exact⟨r,e,λh=>⟨λC=>by omega,by have:=(d h).2;rwa [g]at this⟩⟩
   .by_cases hn:n<v
    .simp only[B,hn,ai,Qf,decide_true,ak];obtain⟨r,e,d⟩:=new;exact⟨r,e,λh=>⟨λC=>by have:=(d h).1;omega,by have:=(d h).2;rwa [g]at this⟩⟩
    .simp only[B,hn,ai,Qf,y5,j6];obtain⟨r,e,d⟩:=A v;refine⟨r,e,λh=>?_⟩;obtain⟨g1,f⟩:=d (λm V=>h m<|jG _ V);have u:=g1 y9
     exact⟨λ_=>u,λa c=>by
      rcases ar.1 c with rfl|c
      .exact λ_=>by show r<=n;omega
      .exact f a c⟩
  .simp only[g,ai,Qf,j6];obtain⟨r,e,d⟩:=A v;refine⟨r,e,λh=>?_⟩;obtain⟨g1,f⟩:=d (λm V=>h m<|jG _ V)
   exact⟨g1,λa c=>by
    rcases ar.1 c with rfl|c
    .exact λC=>absurd C g
    .exact f a c⟩
 |[],_::_,_,_,_,_,_,h,_,_=>by cases h
 |_::_,[],_,_,_,_,_,h,_,_=>by cases h
def RC(c p0:Qb)(hl:I c.aa=I p0.eh)(l:Sm (I c.aa)):∀(s p:fJ),p0.aa=p++s->Sm (I<|p++s)->
  ∃o,Q8 (p0,c,(I p:Int))=O o/\(o=.inr ()->(∀n∈c.aa,0<=n)->∀k,k<I s->Th p0.eh c.aa ((I p+k:Nat):Int) (s.getD k 0))
 |[],p,d,f=>by rw[Q8];simp only[d,Q1,ai];exact⟨_,rfl,λ_ _ k g=>by cases g⟩
 |n::s,p,d,f=>by
  rw[Q8];obtain⟨r,m,q⟩:=Na c p0 (I p:Int) c.aa p0.eh [] [] (-1) rfl rfl hl rfl l;obtain⟨o,e,t⟩:=RC c p0 hl l s (p++[n]) (by rw[d];simp) (by rw[<-Qs];exact f);have j:QT (c,p0,(I p:Int),-1,0)=O r:=m;simp only[d,QX,ak,j,Qf,Qv,kQ f,e];by_cases hn:r=n
  .rw[ae (λh=>h hn)];refine⟨o,rfl,λh h0 k g=>?_⟩;cases k with
   |zero=>rw[<-hn];exact(q h0).2
   |succ k=>
    have:=t h h0 k (by simpa using g);simp only[jW,zH,jL]at this;rw[show I p+(k+1)=I p+(0+1)+k by omega];exact this
  .rw[aj hn];exact⟨_,rfl,λh=>by cases h⟩
def G6:∀{l s:fJ} {k:Nat},k<I l->I l=I s->(l.getD k 0,s.getD k 0)∈l.zip s
 |x::l,n::s,0,_,_=>by simp
 |x::l,n::s,k+1,h,c=>by simp only[cI,List.zip_cons_cons];exact jG _ (G6 (by simpa using h) (by simpa using c))
 |[],_,_,h,_=>by cases h
 |_::_,[],_,_,h=>by cases h
def UE(p0 c:Qb)(j:idx p0.ea 0=O c)(l:Sm (I c.aa))(m:Sm (I p0.aa)):∃b,Xu p0=O b/\(b=J->I p0.eh=I c.aa/\
  ((∀n∈c.aa,0<=n)->∀k,k<I c.aa->0<=p0.eh.getD k 0/\p0.eh.getD k 0<(I p0.aa:Int)/\p0.aa.getD (p0.eh.getD k 0).toNat 0<=c.aa.getD k 0)):=by
 simp only[Xu,j,Qf];by_cases hl:I p0.eh=I c.aa
 .rw[ae y9];obtain⟨o,e,p⟩:=RS c p0 c.aa p0.eh [] [] rfl rfl hl.symm rfl l;obtain⟨o2,q,d⟩:=RC c p0 hl.symm l p0.aa [] rfl m;have e':Zn (c,p0,0)=O o:=e;have f:Q8 (p0,c,0)=O o2:=q;rw[e',Qf];cases o with
  |inl _=>exact⟨_,rfl,λh=>by cases h⟩
  |inr _=>
   simp only[f,Qf];cases o2 with
   |inl _=>exact⟨_,rfl,λh=>by cases h⟩
   |inr _=>
    refine⟨_,rfl,λ_=>⟨hl,λh0 k j=>?_⟩⟩
    have V:p0.eh.getD k 0∈p0.eh:=by rw[jB,jC y9];exact zD _
    have g:=p rfl _ V;refine⟨g.1,g.2,?_⟩;have z:=d rfl h0 (p0.eh.getD k 0).toNat y9;exact z _ (G6 y9 hl) (by simp only[jL,zZ];omega)
 .rw[aj y9];exact⟨_,rfl,λh=>by cases h⟩
def pick(l p:fJ):fJ:=p.map λj=>l.getD j.toNat 0
def nA{l:fJ}{j:Int}(h:0<=j)(c:j<(I l:Int)):idx l j=O (l.getD j.toNat 0):=by
 have:j.toNat<I l:=by omega
 simp[idx,h,this]
def iN:fJ->fJ->Int
 |_::s,x::i=>x*fQ s+iN s i
 |_,_=>0
def ig:fJ->fJ
 |[]=>[]
 |_::s=>fQ s::ig s
def jy:fJ->Int->fJ
 |[],_=>[]
 |_::s,o=>o/fQ s::jy s (o%fQ s)
def lK:∀s:fJ,I (ig s)=I s
 |[]=>rfl
 |_::s=>by simp[ig,lK s]
def lg:∀(s:fJ) (o:Int),I (jy s o)=I s
 |[],_=>rfl
 |_::s,o=>by simp[jy,lg s]
def qj:∀{s i:fJ},iz s i=J->∀n∈s,1<=n
 |n::s,x::i,h,m,V=>by
  simp only[iz,jE,zE]at h;rcases ar.1 V with rfl|V
  .omega
  .exact qj h.2 m V
 |[],_,_,m,V=>by cases V
 |_::_,[],h,_,_=>by cases h
def iy:∀{s i:fJ},iz s i=J->0<=iN s i/\iN s i<fQ s
 |[],[],_=>by simp[iN,fQ]
 |n::s,x::i,h=>by simp only[iz,jE,zE]at h;obtain⟨d,e⟩:=iy h.2;have f:=gu (qj h.2);rw[iN,gx];have g:0<=x*fQ s:=cj h.1.1 y9;have c:(x+1)*fQ s<=n*fQ s:=aK y9 y9;rw[cr,bX]at c;omega
 |[],_::_,h=>by cases h
 |_::_,[],h=>by cases h
def wH{a b:fJ}(c:∀n∈a,1<=n)(d:∀n∈b,1<=n):fQ b<=fQ (a++b):=by rw[kB];have e:=gu c;have f:=gu d;have:=aK e (show 0<=fQ b by omega);omega
def Mp(s v2:fJ)(f:I v2=I s)(u:I s<=1000)(e7:∀n∈s,1<=n)(v:fQ s<=65536):∀(m:Nat) (a b:fJ),I a=m->s=a++b->
  YS (s,v2,Nab (I a) 0++ig b,fQ b,(I b:Int))=O (ig s)
 |0,a,b,g,e=>by
  obtain rfl:=aw g;rw[YS]
  have:¬((I b:Int)<(I s:Int)):=by rw[e];simp
  simp only[this,ai];rw[e];rfl
 |m+1,a,b,g,e=>by
  rcases bU a with rfl|⟨a',n,rfl⟩
  .simp at g
  .simp only[cw]at g e |-;have q:I a'=m:=by simpa using g
   rw[YS];have hl:I s=I a'+1+I b:=by rw[e];simp;omega
   have z:((I b:Int)<(I s:Int)):=by omega
   have w:W (W ((I s:Int) - 1) - (I b:Int))=(I a':Int):=by rw[show W ((I s:Int) - 1)=(I s:Int) - 1 from kP y9 y9,kP y9 y9];omega
   have e':s=a'++(n::b):=by rw[e];simp
   have A:I (Nab (I<|a'++[n]) (0:Int)++ig b)=I v2:=by simp[lK,f,hl]
   have B:Nab (I<|a'++[n]) (0:Int)++ig b=Nab (I a') 0++0::ig b:=by rw[jW,bz,cY,ay];rfl
   have t:I a'<I (Nab (I<|a'++[n]) (0:Int)++ig b):=by simp;omega
   have j:(Nab (I<|a'++[n]) (0:Int)++ig b).set (I a') (fQ b)=Nab (I a') 0++ig (n::b):=by rw[B];have:=oX (p:=Nab (I a') (0:Int)) (s:=ig b) (x:=0) (y:=fQ b);simp only[zK]at this;rw[this,<-Qs];rfl
   have l:idx s (I a':Int)=O n:=by rw[e'];exact Qv
   have c:∀k∈n::b,1<=k:=λk r=>e7 k (by rw[e'];exact cQ _ r)
   have d:∀k∈a',1<=k:=λk r=>e7 k (by rw[e'];exact y6 _ r)
   have C:fQ (n::b)<=65536:=by have:=wH d c;rw[<-e']at this;omega
   have D:=gu c;have E:W (fQ b*n)=fQ (n::b):=by rw[gx,bI,kP (by rw[<-gx];omega) (by rw[<-gx];omega)]
   have F:W ((I b:Int)+1)=(I (n::b):Int):=by rw[kP y9 y9];simp
   have G:=Mp s v2 f u e7 v m a' (n::b) q e';simp only[z,ak,w,fX A,Qf,ky t,iV t,j,l,E,F];exact G
def fT{s:fJ}(h:fY s=0):I s<=16/\fQ s<=65536/\∀n∈s,0<=n/\n<=65536:=by
 unfold fY at h;by_cases hn:mG s=J
 .rw[aj hn]at h;cases h
 .rw[ae hn]at h;by_cases e:I s>16\/mK s=J\/fQ s>65536
  .rw[aj e]at h;cases h
  .have c:mG s=U:=by simpa using hn
   have d:mK s=U:=by
    cases d:mK s with
    |false=>rfl
    |true=>exact absurd (Or.inr<|Or.inl d) e
   refine⟨by omega,by omega,λn V=>⟨CD c n V,Bu d n V⟩⟩
def kL(s:fJ)(d:Sm (I s)):Xl s=O (jf s):=by
 simp only[Xl,nl s d,Qf,jf,vJ s d];by_cases h:fY s=0
 .obtain⟨e,f,g⟩:=fT h
  have hn:mG s=U:=by
   cases hn:mG s with
   |false=>rfl
   |true=>unfold fY at h;rw[aj hn]at h;cases h
  have c:mK s=U:=by
   cases c:mK s with
   |false=>rfl
   |true=>unfold fY at h;rw[ae (by simp[hn]),aj<|Or.inr<|Or.inl c]at h;cases h
  simp[h,tw,hn,c,show¬fQ s>65536 by omega]
 .simp[h]
def qA{s:fJ}(hc:fY s=0)(e7:∀n∈s,1<=n):Xt s=O (ig s):=by
 obtain⟨d,c,f⟩:=fT hc;have g:=gu e7
 have V:kj 8 (I s:Int) (0:Int)=O (Nab (I s) 0):=by
  have:((I s:Int)*8<=(jd:Int)):=by
   have:(1000:Nat)*8<=jd:=by decide +kernel
   omega
  simp[kj,this];omega
 have e:=Mp s (Nab (I s) 0) yB y9 e7 c (I s) s [] rfl yB;simp only[ig,jV,iC,jL,jJ]at e;simp only[Xt,nl s<|hZ (show I s<=1000 by omega),Qf,hc,V,kL s<|hZ (show I s<=1000 by omega),jf,ak,ne_eq,not_true,ai,show¬fQ s=0 by omega,e];rw[fX (by simp[lK])];rfl
def dm{o P n:Int}(c:0<=o)(d:0<=P)(hn:0<=n):(o% (P*n))/n=(o/n)%P:=by
 obtain⟨e,rfl⟩:=zC c;obtain⟨f,rfl⟩:=zC d;obtain⟨n',rfl⟩:=zC hn;have:=Nat.mod_mul_left_div_self e n' f
 exact_mod_cast this
def mm{o P n:Int}:(o% (P*n))%n=o%n:=Int.emod_emod_of_dvd o (Int.dvd_mul_left P n)
def tS:∀(a:fJ) (n o:Int),(∀m∈a,1<=m)->1<=n->0<=o->o<fQ (a++[n])->jy (a++[n]) o=jy a (o/n)++[o%n]
 |[],n,o,_,h,e,c=>by
  have:fQ ([]++[n])=n:=by simp[fQ]
  rw[this]at c;simp only[jQ,jy,iC,Int.ediv_one];rw[b9 e c]
 |m::a,n,o,g,h,e,c=>by
  have l:=gu (λk f=>g k<|jG _ f);have d:fQ (a++[n])=fQ a*n:=by rw[kB,gx,iC,bL]
  have e7:0<fQ a*n:=Int.mul_pos y9 y9;have j:=tS a n (o%fQ (a++[n])) (λk f=>g k<|jG _ f) h (bM _ (by rw[d];omega)) (bC _ (by rw[d];exact e7));rw[d]at j;simp only[aN,jy];rw[d,j,dm e y9 y9,mm,bI (fQ a) n,<-Int.ediv_ediv_of_nonneg (by omega:0<=n)]
def qp:∀{s:fJ} {o:Int},(∀n∈s,1<=n)->0<=o->o<fQ s->iz s (jy s o)=J
 |[],_,_,_,_=>rfl
 |n::s,o,h,e,d=>by have f:=gu (λk c=>h k<|jG _ c);rw[gx]at d;simp only[jy,iz,jE,zE];exact⟨⟨di e y9,fc y9 d⟩,qp (λk c=>h k<|jG _ c) (bM _ y9)<|bC _ y9⟩
def Hg{a b:Int}(c:0<=a)(d:1<=b)(h:a<=9223372036854775807):zl a b=O (a/b):=by have e:a/b<=a:=eF _ c;have f:0<=a/b:=di c y9;rw[zl,ae y9,dW c,kP y9 y9]
def nm{a b:Int}(c:0<=a)(d:1<=b):pz a b=O (a%b):=by rw[pz,ae y9,Int.tmod_eq_emod_of_nonneg c]
def qB{n:Nat}(h:n<=1000):kj 8 (n:Int) (0:Int)=O (Nab n 0):=by
 have:((n:Int)*8<=(jd:Int)):=by
  have:(1000:Nat)*8<=jd:=by decide +kernel
  omega
 simp[kj,this];omega
mutual
def uu:Qb->Nat
 |⟨_,_,_,_,_,_,_,kids⟩=>1+uB kids
def uB:List Qb->Nat
 |[]=>0
 |k::ks=>uu k+uB ks
end
mutual
def Ke:Qb->Prop
 |⟨_,shape,_,starts,_,_,perm,kids⟩=>I shape<=40/\(I starts)<=40/\(I perm)<=40/\(I kids)<=600/\s5 kids
def s5:List Qb->Prop
 |[]=>True
 |k::ks=>Ke k/\s5 ks
end
def qx:∀c:Qb,1<=uu c
 |⟨_,_,_,_,_,_,_,kids⟩=>by rw[uu];omega
def Du:∀l:List Qb,I l<=uB l
 |[]=>zQ _
 |k::ks=>by have:=Du ks;have:=qx k;rw[uB];simp only[zH];omega
mutual
theorem Gu:∀(c:Qb) (n:Int),0<=n->n<=600->∃r,Tx (c,n)=O r/\-1<=r/\r<=n - 1/\(0<=r->r+uu c<=n/\Ke c)
 |⟨k,sh,b,st,f,g,d,ks⟩,n,j,q=>by
  rw[Tx];simp only[];have w:W (n - 1)=n - 1:=kP y9 y9;obtain⟨r,e,l,t,m⟩:=A4 ks [] (n - 1) k sh b st f g d y9 yA;simp only[jQ,jL,jJ]at e;by_cases c1:(I sh:Int)>40
  .exact⟨-1,by simp only[c1,ak,ai,Qf,decide_true,y5,j6],by omega,by omega,by omega⟩
  .by_cases c2:(I st:Int)>40
   .exact⟨-1,by simp only[c1,c2,ak,ai,Qf,decide_true,y5,j6],by omega,by omega,by omega⟩
   .by_cases u:(I d:Int)>40
    .exact⟨-1,by simp only[c1,c2,u,ak,ai,Qf,decide_true,y5,j6],by omega,by omega,by omega⟩
    .refine⟨r,by simp only[c1,c2,u,w,e,ak,ai,Qf,decide_true,y5,j6],l,t,λh=>?_⟩;have:=m h;have hl:=Du ks;rw[uu,Ke];exact⟨by omega,by omega,by omega,by omega,by omega,this.2⟩
theorem A4:∀(s p:List Qb) (n:Int) (k:Int) (sh:fJ) (b:Int) (st:fJ) (f g:Int) (d:fJ),-1<=n->(I p:Int)+n<=600->
  ∃r,YW (⟨k,sh,b,st,f,g,d,p++s⟩,n,(I p:Int))=O r/\-1<=r/\r<=n/\(0<=r->r+uB s<=n/\s5 s)
 |[],p,n,k,sh,b,st,f,g,d,j,q=>by rw[YW];simp only[Q1,ai,Qf,j6];exact⟨n,rfl,j,by omega,λh=>⟨by rw[uB];omega,trivial⟩⟩
 |x::s,p,n,k,sh,b,st,f,g,d,j,q=>by
  rw[YW];simp only[QX,ak,Qf];by_cases hn:n>=0
  .rw[decide_eq_true hn];obtain⟨r,e,l,t,m⟩:=Gu x n hn y9;obtain⟨v,e',y,A,z⟩:=A4 s (p++[x]) r k sh b st f g d l yA;rw[<-Qs]at e';have w:W ((I p:Int)+1)=(I (p++[x]):Int):=by rw[kP y9 y9];simp
   simp only[ak,Qv,Qf,e,w,e'];refine⟨v,rfl,y,by omega,λh=>?_⟩;have a:=z h;have b:=m y9;rw[uB,s5];exact⟨by omega,b.2,a.2⟩
  .rw[y3 hn];simp only[j6,ai];exact⟨n,rfl,j,by omega,λh=>by omega⟩
end
def SY(c:Qb)(n:Int)(d:0<=n)(f:n<=600):∃b,Up (c,n)=O b/\(b=J->Ke c/\(uu c:Int)<=n):=by
 obtain⟨r,e,_,_,h⟩:=Gu c n d f;refine⟨decide<|r>=0,by simp only[Up,e,Qf],λg=>?_⟩;have h0:0<=r:=by simpa using g
 have:=h h0;exact⟨this.2,by omega⟩
mutual
def conv:Qb->Qr
 |⟨k,sh,b,st,c,d,e,ks⟩=>⟨k,sh,b,st,c,d,e,vQ ks⟩
def vQ:List Qb->List Qr
 |[]=>[]
 |k::ks=>conv k::vQ ks
end
mutual
theorem Gv:∀(c:Qb),Ke c->SE c=O (conv c)
 |⟨k,sh,b,st,d,f,g,ks⟩,h=>by rw[Ke]at h;rw[SE];have e:=An ks [] [] k sh b st d f g h.2.2.2.2 rfl yA;simp only[jQ,jL,jJ]at e;simp only[e,Qf,conv]
theorem An:∀(s p:List Qb) (q:List Qr) (k:Int) (sh:fJ) (b:Int) (st:fJ) (d f:Int) (g:fJ),s5 s->I q=I p->I p+I s<=600->
  YU (⟨k,sh,b,st,d,f,g,p++s⟩,q,(I p:Int))=O (q++vQ s)
 |[],p,q,k,sh,b,st,d,f,g,j,l,m=>by rw[YU];simp only[Q1,ai,vQ];rw[jV]
 |x::s,p,q,k,sh,b,st,d,f,g,j,l,m=>by
  rw[YU];rw[s5]at j;have e:=Gv x j.1;simp only[zH]at m;have e':=An s (p++[x]) (q++[conv x]) k sh b st d f g j.2 (by simp[l]) yA;rw[<-Qs]at e';have w:W ((I p:Int)+1)=(I (p++[x]):Int):=by rw[kP y9 y9];simp
  have n:app 128 q [conv x]=O (q++[conv x]):=F5 (by
   have:602*128<=jd:=by decide +kernel
   simp only[zH,jL];omega)
  simp only[QX,ak,Qv,Qf,e,n,w,e',vQ,ay,aR]
end
def mV(a b:fJ)(c:Sm (I b)):YV (a,b)=O (decide<|a=b):=by
 by_cases h:I a=I b
 .exact MN a b (by rw[h];exact c)
 .have d:((I a:Int)≠(I b:Int)):=by omega
  have f:a≠b:=λe=>h (by rw[e])
  simp only[YV];rw[aj d,y3 f]
def tQ{c:Type}{l:List c}{k:c}{r:List c}(h:l=k::r):idx l 0=O k:=by subst h;rfl
def PJ{c:Type}{l:List c}{k k2:c}{r:List c}(h:l=k::k2::r):idx l 1=O k2:=by subst h;rfl
def DU(p0 k:Qb)(r:List Qb)(f:p0.ea=k::r)(g:Sm (I p0.aa)):∃b,T3 p0=O b/\(b=J->k.aa=p0.aa/\0<=p0.ch/\p0.ch<(I p0.aa:Int)):=by
 simp only[T3,tQ f,Qf,mV _ _ g];by_cases c:k.aa=p0.aa
 .by_cases d:p0.ch>=0
  .by_cases e:p0.ch<(I p0.aa:Int)
   .exact⟨J,by simp[c,d,e],λ_=>⟨c,d,e⟩⟩
   .exact⟨U,by simp[c,d,e],λh=>by cases h⟩
  .exact⟨U,by simp[c,d],λh=>by cases h⟩
 .exact⟨U,by simp[c],λh=>by cases h⟩
def Kx(c:Int)(s a b:fJ)(k:Nat):Prop:=((k:Int)=c->s.getD k 0=W (a.getD k 0+b.getD k 0))/\((k:Int)≠c->a.getD k 0=b.getD k 0/\a.getD k 0=s.getD k 0)
def CA{p s:fJ}{x:Int}:(p++x::s).getD (I p) 0=x:=by simp
def G9(d p0 v2:Qb):∀(a b s p q u:fJ),d.aa=p++a->v2.aa=q++b->p0.aa=u++s->I a=I b->I a=I s->I p=I q->I p=I u->Sm (I<|p++a)->
  ∃o,YK (d,p0,v2,(I p:Int))=O o/\(o=.inr ()->∀k,I p<=k->k<I d.aa->Kx p0.ch p0.aa d.aa v2.aa k)
 |[],b,s,p,q,u,g,j,l,_,_,_,_,r=>by rw[YK];simp only[g,Q1,ai];exact⟨_,rfl,λ_ k D t=>by simp at t;omega⟩
 |x::a,y::b,z::s,p,q,u,g,j,l,D,t,v,A,r=>by
  rw[YK];obtain⟨o,e,G⟩:=G9 d p0 v2 a b s (p++[x]) (q++[y]) (u++[z]) (by rw[g];simp) (by rw[j];simp) (by rw[l];simp) (by simpa using D) (by simpa using t) (by simp[v]) (by simp[A]) (by rw[<-Qs];exact r);have H:idx d.aa (I p:Int)=O x:=by rw[g];exact Qv
  have K:idx v2.aa (I p:Int)=O y:=by rw[j,v];exact Qv
  have L:idx p0.aa (I p:Int)=O z:=by rw[l,A];exact Qv
  have g1:d.aa.getD (I p) 0=x:=by rw[g];exact CA
  have E:v2.aa.getD (I p) 0=y:=by rw[j,v];exact CA
  have F:p0.aa.getD (I p) 0=z:=by rw[l,A];exact CA
  have M:((I p:Int)<(I d.aa:Int)):=by rw[g];exact QX
  have w:W ((I p:Int)+1)=(I (p++[x]):Int):=kQ r
  have fin:∀c:Kx p0.ch p0.aa d.aa v2.aa (I p),o=.inr ()->∀k,I p<=k->k<I d.aa->Kx p0.ch p0.aa d.aa v2.aa k:=λc h k N B=>by
   by_cases C:k=I p
   .rw[C];exact c
   .exact G h k yA B
  simp only[M,ak,H,K,L,Qf,w,e];by_cases m:(I p:Int)=p0.ch
  .simp only[m,ak,Qf,ne_eq,not_true,ai];by_cases f:z=W (x+y)
   .refine⟨o,by simp[f],fin ⟨λ_=>by rw[g1,E,F];exact f,λh=>absurd m h⟩⟩
   .exact⟨.inl (),by simp[f],λh=>by cases h⟩
  .simp only[m,ai,Qf,ne_eq,not_false_eq_true,ak,j6];by_cases n:x=y
   .by_cases f:x=z
    .refine⟨o,by simp[<-n,<-f],fin ⟨λh=>absurd h m,λ_=>by rw[g1,E,F];exact⟨n,f⟩⟩⟩
    .exact⟨.inl (),by simp[<-n,f],λh=>by cases h⟩
   .exact⟨.inl (),by simp[n],λh=>by cases h⟩
 |_::_,[],_,_,_,_,_,_,_,h,_,_,_,_=>by cases h
 |_::_,_::_,[],_,_,_,_,_,_,_,h,_,_,_=>by cases h
def Kk(p0 c v2:Qb)(r:List Qb)(g:p0.ea=c::v2::r)(p:Sm (I c.aa)):∃b,Vf p0=O b/\(b=J->I c.aa=I v2.aa/\(I c.aa)=I p0.aa/\
  0<=p0.ch/\p0.ch<(I c.aa:Int)/\∀k,k<I c.aa->Kx p0.ch p0.aa c.aa v2.aa k):=by
 simp only[Vf,tQ g,PJ g,Qf];by_cases j:I c.aa=I v2.aa
 .by_cases d:I c.aa=I p0.aa
  .by_cases l:p0.ch<0
   .exact⟨U,by simp[j,d,<-d,l],λh=>by cases h⟩
   .by_cases n:p0.ch>=(I c.aa:Int)
    .refine⟨U,?_,λh=>by cases h⟩;have c1:(I c.aa:Int)=(I v2.aa:Int):=by omega
     have c2:((I c.aa:Int) !=(I p0.aa:Int))=U:=by simp[d]
     simp only[ne_eq,c1,not_true,ai,Qf,j6,y3 l];rw[<-c1];simp only[c2,Qf,j6,ai,decide_eq_true n,ak]
    .obtain⟨o,e,q⟩:=G9 c p0 v2 c.aa v2.aa p0.aa [] [] [] rfl rfl rfl j d rfl rfl p;have e':YK (c,p0,v2,0)=O o:=e;have c1:¬((I c.aa:Int)≠(I v2.aa:Int)):=by omega
     have c2:((I c.aa:Int) !=(I p0.aa:Int))=U:=by simp[d]
     have m:∀f:Unit⊕ Unit->Option Bool,f o=(if o.isRight then f (.inr ())else f (.inl ())):=λf=>by cases o<;>rfl
     simp only[c1,ai,c2,Qf,j6,y3 l,y3 n,e'];cases o with
     |inl _=>exact⟨_,rfl,λh=>by cases h⟩
     |inr _=>exact⟨_,rfl,λ_=>⟨j,d,by omega,by omega,λk g=>q rfl k (zQ _) g⟩⟩
  .refine⟨U,?_,λh=>by cases h⟩;have c1:¬((I c.aa:Int)≠(I v2.aa:Int)):=by omega
   have c2:((I c.aa:Int) !=(I p0.aa:Int))=J:=by simp;omega
   simp only[c1,ai,Qf,c2,ak]
 .refine⟨U,?_,λh=>by cases h⟩;have c1:((I c.aa:Int)≠(I v2.aa:Int)):=by omega
  simp only[aj c1,Qf,ak]
def yU{c:Type}{p:Prop}[Decidable p]{a b:c}:(if p then O a else O b)=O (if p then a else b):=by split <;>rfl
structure nB (c:Qb):Prop where
 bx:1<=c.bx/\c.bx<=7
 ea:(I c.ea:Int)=if c.bx=7 then 2 else if c.bx=1 then 0 else 1
 ns:fY c.aa=0
 uo:c.bx=2->I c.cx=I c.aa/\(∀x∈c.cx,-65536<=x/\x<=65536)/\∀k r,c.ea=k::r->I k.aa=I c.aa
 rev:c.bx=3\/c.bx=4->∀k r,c.ea=k::r->k.aa=c.aa/\0<=c.ch/\c.ch<(I c.aa:Int)
 vk:c.bx=4->0<=c.cS/\(c.cS=0\/c.cS<c.aa.getD c.ch.toNat 0)
 x7:c.bx=5->∀k r,c.ea=k::r->I c.eh=I k.aa/\
  ((∀n∈k.aa,0<=n)->∀j,j<I k.aa->0<=c.eh.getD j 0/\c.eh.getD j 0<(I c.aa:Int)/\c.aa.getD (c.eh.getD j 0).toNat 0<=k.aa.getD j 0)
 tr2:c.bx=5->Xu c=O J
 cat:c.bx=7->∀k k2 r,c.ea=k::k2::r->I k.aa=I k2.aa/\(I k.aa)=I c.aa/\0<=c.ch/\c.ch<(I k.aa:Int)/\∀j,j<I k.aa->Kx c.ch c.aa k.aa k2.aa j
def Ed(c:Qb):∀(s p:fJ),c.cx=p++s->Sm (I<|p++s)->∃o,Xq (c,(I p:Int))=O o/\(o=.inr ()->∀x∈s,-65536<=x/\x<=65536)
 |[],p,d,f=>by rw[Xq];simp only[d,Q1,ai];exact⟨_,rfl,λ_ x h=>by cases h⟩
 |x::s,p,d,f=>by
  rw[Xq];obtain⟨o,e,l⟩:=Ed c s (p++[x]) (by rw[d];simp) (by rw[<-Qs];exact f);simp only[d,QX,ak,Qv,Qf,kQ f,e];by_cases g:x< -65536
  .exact⟨.inl (),by simp[g,Qf],λh=>by cases h⟩
  .by_cases k:x>65536
   .exact⟨.inl (),by simp[g,k,Qf],λh=>by cases h⟩
   .refine⟨o,by simp[g,k,Qf],λh y j=>?_⟩;rcases ar.1 j with rfl|j
    .omega
    .exact l h y j
def mn{c:Qb}(h:(I c.ea:Int)=1):∃k,c.ea=[k]:=by
 match d:c.ea,h with
 |[k],_=>exact⟨k,rfl⟩
 |[],h=>simp at h
 |_::_::_,h=>simp at h;omega
def DY{c:Qb}(h:(I c.ea:Int)=2):∃k k2,c.ea=[k,k2]:=by
 match d:c.ea,h with
 |[k,k2],_=>exact⟨k,k2,rfl⟩
 |[],h=>simp at h
 |[_],h=>simp at h
 |_::_::_::_,h=>simp at h;omega
def RI{B:Bool}{R:Option Bool}{F:Prop}(h:B=U->∃b,R=O b/\(b=J->F)):∃b,(if B=J then O U else R)=O b/\(b=J->F):=by
 cases B with
 |true=>exact⟨U,rfl,λh=>by cases h⟩
 |false=>exact h rfl
def P4(c:Qb)(bs:List fJ)(D:I c.aa<=40)(E:I c.cx<=40)(s:∀k∈c.ea,I k.aa<=40):
  ∃b,SM (c,bs)=O b/\(b=J->nB c):=by
 have l:Sm (I c.aa):=hZ (show I c.aa<=1000 by omega);simp only[SM,yU,Qf,nV _ l];refine RI λm=>?_
 have k1:¬c.bx<1:=λh=>by simp[h]at m
 have F:¬c.bx>7:=λh=>by simp[h]at m
 have kl:(I c.ea:Int)=if c.bx=7 then 2 else if c.bx=1 then 0 else 1:=Decidable.byContradiction λh=>by simp[h]at m
 have kc:fY c.aa=0:=Decidable.byContradiction λh=>by simp[h]at m
 clear m;refine RI λz=>?_
 clear z;by_cases c1:c.bx=1
 .rw[aj c1];have hn:nB c:=⟨by omega,kl,kc,by omega,by omega,by omega,by omega,by omega,by omega⟩;by_cases g:0<=c.bc/\c.bc<(I bs:Int)
  .have j:(if c.bc>=0 then decide (c.bc<(I bs:Int))else U)=J:=by simp[g]
   rw[aj j];have hi:c.bc.toNat<I bs:=by omega
   have:idx bs c.bc=O bs[c.bc.toNat]:=by simp[idx,g.1,hi]
   simp only[this,Qf,mV _ _ l];exact⟨_,rfl,λ_=>hn⟩
  .have j:¬(if c.bc>=0 then decide (c.bc<(I bs:Int))else U)=J:=by
    by_cases h0:c.bc>=0
    .simp only[h0,ak,zE];omega
    .simp[h0]
   rw[ae j];exact⟨_,rfl,λh=>by cases h⟩
 rw[ae c1];by_cases c2:c.bx=2
 .rw[aj c2];obtain⟨k,f⟩:=mn (c:=c) (by rw[kl,ae y9,ae c1]);obtain⟨o,e,A⟩:=Ed c c.cx [] rfl (hZ (show([]++c.cx).length<=1000 by simp;omega));have e':Xq (c,0)=O o:=e;rw[e',Qf];cases o with
  |inl _=>exact⟨_,rfl,λh=>by cases h⟩
  |inr _=>
   simp only[tQ f,Qf];by_cases hl:(I c.cx:Int)=(I c.aa:Int)
   .rw[aj hl];refine⟨_,rfl,λh=>⟨by omega,kl,kc,λ_=>⟨by omega,A rfl,λn r d=>?_⟩,by omega,by omega,by omega,by omega,by omega⟩⟩;rw[f]at d;cases d;simp at h;omega
   .rw[ae hl];exact⟨_,rfl,λh=>by cases h⟩
 rw[ae c2];by_cases t:c.bx=3
 .rw[aj t];obtain⟨k,f⟩:=mn (c:=c) (by rw[kl,ae y9,ae c1]);obtain⟨b,e,g⟩:=DU c k [] f l;rw[e,Qf];exact⟨_,rfl,λh=>⟨by omega,kl,kc,by omega,λ_ n r d=>by rw[f]at d;cases d;exact g h,by omega,by omega,by omega,by omega⟩⟩
 rw[ae t];by_cases u:c.bx=4
 .rw[aj u];obtain⟨k,f⟩:=mn (c:=c) (by rw[kl,ae y9,ae c1]);obtain⟨b,e,g⟩:=DU c k [] f l;rw[e,Qf];cases b with
  |false=>exact⟨U,by simp,λh=>by cases h⟩
  |true=>
   obtain⟨B,v,w⟩:=g rfl;have x:c.bx=3\/c.bx=4->∀k r,c.ea=k::r->k.aa=c.aa/\0<=c.ch/\c.ch<(I c.aa:Int):=λ_ n r d=>by rw[f]at d;cases d;exact⟨B,v,w⟩
   by_cases V:c.cS>=0
   .simp only[ak,decide_eq_true V];by_cases h0:c.cS=0
    .rw[aj h0];exact⟨_,rfl,λh=>⟨by omega,kl,kc,by omega,x,λ_=>⟨V,Or.inl h0⟩,by omega,by omega,by omega⟩⟩
    .rw[ae h0];simp only[nA v w,Qf];exact⟨_,rfl,λh=>⟨by omega,kl,kc,by omega,x,λ_=>⟨V,Or.inr (by simpa using h)⟩,by omega,by omega,by omega⟩⟩
   .simp only[ak,y3 V,j6,ai];exact⟨_,rfl,λh=>by cases h⟩
 rw[ae u];by_cases y:c.bx=5
 .rw[aj y];obtain⟨k,f⟩:=mn (c:=c) (by rw[kl,ae y9,ae c1]);have p:=s k (by rw[f];simp);obtain⟨b,e,g⟩:=UE c k (tQ f) (hZ (show I k.aa<=1000 by omega)) l;rw[e,Qf];exact⟨_,rfl,λh=>⟨by omega,kl,kc,by omega,by omega,by omega,λ_ n r d=>by rw[f]at d;cases d;exact g h,λ_=>by rw[e,h],by omega⟩⟩
 rw[ae y];by_cases q:c.bx=7
 .rw[aj q];obtain⟨k,k2,f⟩:=DY (c:=c) (by rw[kl,aj q]);have p:=s k (by rw[f];simp);obtain⟨b,e,g⟩:=Kk c k k2 [] f (hZ (show I k.aa<=1000 by omega));rw[e,Qf];exact⟨_,rfl,λh=>⟨by omega,kl,kc,by omega,by omega,by omega,by omega,by omega,λ_ n C r d=>by rw[f]at d;cases d;exact g h⟩⟩
 .rw[ae q];exact⟨_,rfl,λ_=>⟨by omega,kl,kc,by omega,by omega,by omega,by omega,by omega,by omega⟩⟩
def Es:∀{l:List Qb},s5 l->∀k∈l,Ke k
 |x::l,h,k,c=>by
  rw[s5]at h;rcases ar.1 c with rfl|c
  .exact h.1
  .exact Es h.2 k c
 |[],_,_,c=>by cases c
def Hz{c:Qb}(h:Ke c):I c.aa<=40/\(I c.cx)<=40/\(I c.eh)<=40/\(I c.ea)<=600/\s5 c.ea:=by cases c;rw[Ke]at h;exact h
def X8{c:Type}{p s:List c}{x:c}(h:I p+I (x::s)<=600):W ((I p:Int)+1)=(I (p++[x]):Int):=by simp at h;rw[kP y9 y9];simp
def Tk(bs:List fJ)(c:Qb):Prop:=c.bx=1->idx bs c.bc=O c.aa
def Ln(c:Qb)(bs:List fJ)(f:Sm (I c.aa))(h:SM (c,bs)=O J):Tk bs c:=by
 intro c1;simp only[SM,yU,Qf,nV _ f]at h
 have g:∀{B:Bool} {R:Option Bool},(if B=J then O U else R)=O J->R=O J:=λ{B} {R} h=>by
  cases B with
  |true=>cases h
  |false=>exact h
 replace h:=g (g h);rw[aj c1]at h;by_cases d:0<=c.bc/\c.bc<(I bs:Int)
 .have hi:c.bc.toNat<I bs:=by omega
  have e:idx bs c.bc=O bs[c.bc.toNat]:=by simp[idx,d.1,hi]
  simp only[show c.bc>=0 from d.1,ak,decide_eq_true d.2,e,Qf,mV _ _ f,j9,zE]at h;rw[e,h]
 .have j:¬(if c.bc>=0 then decide (c.bc<(I bs:Int))else U)=J:=by
   by_cases h0:c.bc>=0
   .simp only[h0,ak,zE];omega
   .simp[h0]
  rw[ae j]at h;cases h
mutual
def nE (bs:List fJ):Qb->Prop
 |⟨k,sh,b,st,c,d,e,ks⟩=>nB ⟨k,sh,b,st,c,d,e,ks⟩/\Tk bs ⟨k,sh,b,st,c,d,e,ks⟩/\rU bs ks
def rU (bs:List fJ):List Qb->Prop
 |[]=>True
 |k::ks=>nE bs k/\rU bs ks
end
def vS{bs:List fJ}:∀{l:List Qb},rU bs l->∀k∈l,nE bs k
 |x::l,h,k,c=>by
  rw[rU]at h;rcases ar.1 c with rfl|c
  .exact h.1
  .exact vS h.2 k c
 |[],_,_,c=>by cases c
def mE{bs:List fJ}{c:Qb}(h:nE bs c):nB c/\Tk bs c/\∀k∈c.ea,nE bs k:=by cases c;rw[nE]at h;exact⟨h.1,h.2.1,vS h.2.2⟩
mutual
theorem Dq (bs:List fJ):∀(c:Qb),Ke c->∃b,SG (c,bs)=O b/\(b=J->nE bs c)
 |⟨k,sh,b,st,d,f,g,ks⟩,h=>by
  have j:=Hz h;rw[SG];obtain⟨v,e,n⟩:=P4 ⟨k,sh,b,st,d,f,g,ks⟩ bs j.1 j.2.1 (λk u=>(Hz<|Es j.2.2.2.2 k u).1);simp only[e,Qf];cases v with
  |false=>exact⟨U,rfl,λh=>by cases h⟩
  |true=>
   have l:=Ln _ bs (hZ (show I sh<=1000 by have:=j.1;simp only at this;omega)) e;obtain⟨o,t,q⟩:=wU bs ks [] k sh b st d f g j.2.2.2.2 (by have:=j.2.2.2.1;simpa using this);simp only[jQ,jL,jJ]at t;simp only[jO,ai,t,Qf];cases o with
   |inl _=>exact⟨U,rfl,λh=>by cases h⟩
   |inr _=>exact⟨J,rfl,λ_=>by rw[nE];exact⟨n rfl,l,q rfl⟩⟩
theorem wU (bs:List fJ):∀(s p:List Qb) (k:Int) (sh:fJ) (b:Int) (st:fJ) (d f:Int) (g:fJ),s5 s->I p+I s<=600->
  ∃o,Ys (⟨k,sh,b,st,d,f,g,p++s⟩,bs,(I p:Int))=O o/\(o=.inr ()->rU bs s)
 |[],p,k,sh,b,st,d,f,g,m,r=>by rw[Ys];simp only[Q1,ai];exact⟨_,rfl,λ_=>trivial⟩
 |x::s,p,k,sh,b,st,d,f,g,m,r=>by
  rw[Ys];rw[s5]at m;obtain⟨v,e,n⟩:=Dq bs x m.1;obtain⟨o,e',q⟩:=wU bs s (p++[x]) k sh b st d f g m.2 (by simp at r |-;omega);rw[<-Qs]at e';simp only[QX,ak,Qv,Qf,e,X8 r,e'];cases v with
  |false=>exact⟨.inl (),rfl,λh=>by cases h⟩
  |true=>exact⟨o,rfl,λh=>by rw[rU];exact⟨n rfl,q h⟩⟩
end
mutual
theorem DI:∀(c:Qb),Ke c->∃d,Sa c=O d
 |⟨k,sh,b,st,f,g,j,ks⟩,h=>by have n:=Hz h;rw[Sa];obtain⟨o,q⟩:=xo ks [] 0 k sh b st f g j n.2.2.2.2 (by have:=n.2.2.2.1;simpa using this);simp only[jQ,jL,jJ]at q;simp only[q,Qf];exact⟨_,rfl⟩
theorem xo:∀(s p:List Qb) (d k:Int) (sh:fJ) (b:Int) (st:fJ) (f g:Int) (j:fJ),s5 s->I p+I s<=600->
  ∃o,Yq (⟨k,sh,b,st,f,g,j,p++s⟩,d,(I p:Int))=O o
 |[],p,d,k,sh,b,st,f,g,j,l,m=>by rw[Yq];simp only[Q1,ai];exact⟨_,rfl⟩
 |x::s,p,d,k,sh,b,st,f,g,j,l,m=>by rw[Yq];rw[s5]at l;obtain⟨v,e⟩:=DI x l.1;obtain⟨o,e'⟩:=xo s (p++[x]) (if d<v then v else d) k sh b st f g j l.2 (by simp at m |-;omega);rw[<-Qs]at e';simp only[QX,ak,Qv,Qf,e,X8 m,e'];exact⟨_,rfl⟩
end
def Ig:fJ->Int
 |[]=>1
 |n::s=>(if n<1 then 1 else n)*Ig s
def GR:∀s:fJ,1<=Ig s
 |[]=>aG _
 |n::s=>by
  have c:=GR s;have d:1<=(if n<1 then 1 else n):=by split <;>omega
  rw[Ig];have:=bn d c y9 y9;omega
def CY(c:Int)(V:0<=c/\c<=1000000):∀(s p:fJ) (v:Int),I p+I s<=600->(∀n∈s,n<=65536)->1<=v->v<=100000000->∃o,Y3 (p++s,c,v,(I p:Int))=O o/\(o=.inr ()->s=[]\/v*Ig s<=100*c)
 |[],p,v,h,f,g,j=>by refine⟨.inr (),?_,λ_=>Or.inl rfl⟩;rw[Y3];simp only[Q1,ai]
 |x::s,p,v,h,f,g,j=>by
  rw[Y3];have l:W (100*c)=100*c:=kP y9 y9;have r:=f x (jM ..);have d:1<=(if x<1 then 1 else x)/\(if x<1 then 1 else x)<=65536:=by split <;>omega
  have b1:=bn j d.2 y9 y9;have b2:=bn g d.1 y9 y9;have m:W (v*(if x<1 then 1 else x))=v*(if x<1 then 1 else x):=kP y9 y9;simp only[QX,ak,Qv,Qf,X8 h,l,m];by_cases k:v*(if x<1 then 1 else x)>100*c
  .exact⟨_,aj k,λh=>by cases h⟩
  .obtain⟨o,e,q⟩:=CY c V s (p++[x]) (v*(if x<1 then 1 else x)) (by simp at h |-;omega) (λn hn=>f n<|jG _ hn) y9 y9;rw[<-Qs]at e;rw[ae k];refine⟨o,e,λh=>Or.inr ?_⟩;rw[Ig,<-bo];rcases q h with rfl|h
   .rw[Ig,bL];omega
   .exact h
def uJ(m:Int)(l:fJ):Prop:=I l<=6/\fY l=0/\fQ l<=m/\(l=[]\/Ig l<=100*m)
def N8(l:fJ)(c:Int)(V:0<=c/\c<=1000000)(h:I l<=40):∃b,UG (l,c)=O b/\(b=J->uJ c l):=by
 have f:Sm (I l):=hZ (show I l<=1000 by omega);simp only[UG,nV _ f,lu _ f,Qf,yU];by_cases g1:(I l:Int)>6
 .exact⟨U,by simp[g1],λh=>by cases h⟩
 by_cases d:fY l=0
 .have hc:jf l=fQ l:=by rw[jf,aj d]
  by_cases g:jf l>c
  .exact⟨U,by simp[g1,d,g],λh=>by cases h⟩
  .obtain⟨o,e,j⟩:=CY c V l [] 1 yA (λn hn=>((fT d).2.2 n hn).2) y9 y9;have e':Y3 (l,c,1,0)=O o:=e;simp only[g1,d,g,e',ai,bne_self_eq_false,j6,y5,Qf];cases o with
   |inl _=>exact⟨_,rfl,λh=>by cases h⟩
   |inr _=>exact⟨_,rfl,λ_=>⟨by omega,d,by omega,by rcases j rfl with h|h;exact Or.inl h;exact Or.inr y9⟩⟩
 .exact⟨U,by simp[g1,d],λh=>by cases h⟩
mutual
def pB (m:Int):Qb->Prop
 |⟨k,sh,b,st,c,d,e,ks⟩=>uJ m sh/\r6 m ks
def r6 (m:Int):List Qb->Prop
 |[]=>True
 |k::ks=>pB m k/\r6 m ks
end
def vq{m:Int}:∀{l:List Qb},r6 m l->∀k∈l,pB m k
 |x::l,h,k,c=>by
  rw[r6]at h;rcases ar.1 c with rfl|c
  .exact h.1
  .exact vq h.2 k c
 |[],_,_,c=>by cases c
def ov{m:Int}{c:Qb}(h:pB m c):uJ m c.aa/\∀k∈c.ea,pB m k:=by cases c;rw[pB]at h;exact⟨h.1,vq h.2⟩
mutual
theorem CT (m:Int) (V:0<=m/\m<=1000000):∀(c:Qb),Ke c->∃d,R8 (c,m)=O d/\(d=J->pB m c)
 |⟨k,sh,b,st,f,g,j,ks⟩,h=>by
  have n:=Hz h;rw[R8];obtain⟨v,e,q⟩:=N8 sh m V n.1;obtain⟨o,u,r⟩:=wV m V ks [] k sh b st f g j n.2.2.2.2 (by have:=n.2.2.2.1;simpa using this);simp only[jQ,jL,jJ]at u;simp only[e,u,Qf];cases v
  .exact⟨_,rfl,λh=>by cases h⟩
  .cases o
   .exact⟨_,rfl,λh=>by cases h⟩
   .exact⟨_,rfl,λ_=>by rw[pB];exact⟨q rfl,r rfl⟩⟩
theorem wV (m:Int) (V:0<=m/\m<=1000000):∀(s p:List Qb) (k:Int) (sh:fJ) (b:Int) (st:fJ) (f g:Int) (j:fJ),s5 s->I p+I s<=600->
  ∃o,Yr (⟨k,sh,b,st,f,g,j,p++s⟩,m,(I p:Int))=O o/\(o=.inr ()->r6 m s)
 |[],p,k,sh,b,st,f,g,j,l,t=>by rw[Yr];simp only[Q1,ai];exact⟨_,rfl,λ_=>trivial⟩
 |x::s,p,k,sh,b,st,f,g,j,l,t=>by
  rw[Yr];rw[s5]at l;obtain⟨v,e,q⟩:=CT m V x l.1;obtain⟨o,e',r⟩:=wV m V s (p++[x]) k sh b st f g j l.2 (by simp at t |-;omega);rw[<-Qs]at e';simp only[QX,ak,Qv,Qf,e,X8 t,e'];cases v
  .exact⟨_,rfl,λh=>by cases h⟩
  .exact⟨o,rfl,λh=>by rw[r6];exact⟨q rfl,r h⟩⟩
end
def K9(c:Qb)(bs:List fJ)(m:Int)(V:0<=m/\m<=1000000):∃b,UD (c,bs,m)=O b/\(b=J->Ke c/\nE bs c/\pB m c/\(uu c:Int)<=60/\(I bs)<=20):=by
 simp only[UD];have g:(⟨c.bx,c.aa,c.bc,c.cx,c.ch,c.cS,c.eh,c.ea⟩:Qb)=c:=by cases c;rfl
 try rw[g]
 by_cases j:(I bs:Int)<=20
 .obtain⟨b,e,l⟩:=SY c 60 y9 y9;simp only[j,ak,e,Qf];cases b with
  |false=>exact⟨U,by simp[Qf],λh=>by cases h⟩
  |true=>
   obtain⟨f,n⟩:=l rfl;obtain⟨d,p⟩:=DI c f;obtain⟨v,q,r⟩:=Dq bs c f;obtain⟨x,s,t⟩:=CT m V c f;simp only[ak,Vz,p,Qf];by_cases k:d<=300
   .simp only[k,ak,q,Qf];cases v with
    |false=>exact⟨U,by simp[Qf],λh=>by cases h⟩
    |true=>
     simp only[ak,s,Qf];exact⟨x,rfl,λh=>⟨f,r rfl,t h,n,by omega⟩⟩
   .simp only[k,ai,Qf,j6];exact⟨U,rfl,λh=>by cases h⟩
 .exact⟨U,by simp[j,Qf],λh=>by cases h⟩
def gW{s:fJ}(h:∀n∈s,0<=n)(c:fQ s≠0):∀n∈s,1<=n:=λn hn=>by
 have h0:=h n hn;rcases Int.lt_or_eq_of_le h0 with g|g
 .omega
 .subst g;exact absurd (sS hn) c
def gn{c:Type}{b:Nat}{l es:List c}(h:I l+I es<=100000000)(d:b<=1000):app b l es=O (l++es):=F5 (by
 have e:(I l+I es)*b<=100000000*1000:=dL h d;have f:100000000*1000<=jd:=by decide +kernel
 omega)
def EL(n:Int)(a:fJ):List fJ:=(Nad n.toNat).map λ(k:Nat)=>a++[(k:Int)]
def qK(out:List fJ)(n:Int):List fJ:=out.flatMap (EL n)
def iF:fJ->List fJ
 |[]=>[[]]
 |n::s=>(Nad n.toNat).flatMap λ(k:Nat)=>(iF s).map ((k:Int)::·)
def AT:∀(s:fJ) (out:List fJ),s.foldl qK out=out.flatMap λa=>(iF s).map (a++·)
 |[],out=>by
  simp only[fe,iF,zV,jV,aH];induction out with
  |nil=>rfl
  |cons a o c=>rw[aI,<-c];rfl
 |n::s,out=>by
  rw[aY,AT s,qK,List.flatMap_assoc];congr 1
  funext a
  rw[EL,List.flatMap_map,iF,List.map_flatMap];congr 1
  funext k
  rw[zG];congr 1
  funext x
  simp
def Py(s:fJ):s.foldl qK [[]]=iF s:=by rw[AT];simp
def pm:fJ->Nat
 |[]=>1
 |n::s=>max n.toNat 1*pm s
def NQ:∀s:fJ,1<=pm s
 |[]=>j7 _
 |n::s=>by have:=NQ s;rw[pm];exact dL (show 1<=max n.toNat 1 by omega) this
def Mr(n:Int)(a:fJ):I (EL n a)=n.toNat:=by simp[EL]
def xH(n:Int):∀out:List fJ,I (qK out n)=I out*n.toNat
 |[]=>by simp[qK]
 |a::o=>by have:=xH n o;unfold qK at this |-;rw[aI,jW,Mr,this,zH,av,bA];omega
def Et{out:List fJ}{n:Int}{m:Nat}(h:∀a∈out,I a=m):∀a∈qK out n,I a=m+1:=λa c=>by unfold qK at c;obtain⟨b,d,hc⟩:=bJ.1 c;unfold EL at hc;obtain⟨k,_,rfl⟩:=aq.1 hc;simp[h b d]
def yH:∀{s x:fJ},x∈iF s↔iz s x=J
 |[],x=>by
  cases x with
  |nil=>simp[iF,iz]
  |cons a x=>simp[iF,iz]
 |n::s,x=>by
  rw[iF,bJ];constructor
  .rintro⟨k,c,h⟩
   obtain⟨y,d,rfl⟩:=aq.1 h;have:=ck.1 c;simp only[iz,jE,zE];exact⟨by omega,yH.1 d⟩
  .intro h;cases x with
   |nil=>cases h
   |cons a x=>
    simp only[iz,jE,zE]at h;refine⟨a.toNat,ck.2 y9,aq.2 ⟨x,yH.2 h.2,?_⟩⟩;rw[de h.1.1]
def pL{d:Type}(f:Nat->List d)(c:Nat)(h:∀k,I (f k)=c):∀m:Nat,I ((Nad m).flatMap f)=m*c
 |0=>by simp
 |m+1=>by rw[dC,df,jW,pL f c h m];simp[h,av]
def kK:∀{s:fJ},(∀n∈s,0<=n)->(I (iF s):Int)=fQ s
 |[],_=>by simp[iF,fQ]
 |n::s,h=>by
  have c:=kK (s:=s) λm V=>h m<|jG _ V
  have h0:=h n (jM ..);rw[iF,pL _ (I<|iF s) (λk=>by simp),cy,c,gx,de h0]
def qa{l:Type}(f:Nat->List l)(c:Nat)(h:∀k,I (f k)=c)(hc:1<=c):∀(m j:Nat),j<m*c->((Nad m).flatMap f)[j]?=(f<|j/c)[j%c]?
 |0,j,e=>by simp at e
 |m+1,j,e=>by
  rw[dC,df,jT];have hl:=pL f c h m;rw[hl];by_cases d:j<m*c
  .rw[aj d];exact qa f c h hc m j d
  .rw[ae d];have g:j/c=m:=Nat.div_eq_of_lt_le y9 y9
   have n:j%c=j - m*c:=by have:=cz j c;rw[g,bK]at this;omega
   rw[g,n];simp
def mf:∀{s:fJ},(∀n∈s,1<=n)->∀j:Nat,(j:Int)<fQ s->(iF s)[j]?=O (jy s (j:Int))
 |[],_,j,c=>by
  have:j=0:=by simp[fQ]at c;omega
  subst this;rfl
 |n::s,h,j,c=>by
  have d:∀m∈s,1<=m:=λm V=>h m<|jG _ V
  have h0:=h n (jM ..);have hl:=kK (s:=s) λm V=>by have:=d m V;omega
  have g:=gu d;rw[gx]at c;have hc:1<=I (iF s):=by omega
  have e:j<n.toNat*I (iF s):=by
   have:((n.toNat*I (iF s):Nat):Int)=n*fQ s:=by rw[cy,hl,de y9]
   omega
  rw[iF,qa _ (I<|iF s) (λk=>by simp) hc _ _ e,jD];have V:((j% I (iF s):Nat):Int)=(j:Int)%fQ s:=by rw[cF,hl]
  have f:((j/I (iF s):Nat):Int)=(j:Int)/fQ s:=by rw[Int.natCast_ediv,hl]
  rw[mf d (j% I (iF s)) (by rw[V];exact bC _ y9),jN,V,f,jy]
def Lp:∀s:fJ,((pm s:Nat):Int)=Ig s
 |[]=>rfl
 |n::s=>by rw[pm,Ig,cy,Lp s];congr 1;split <;>omega
def MM{m:Int}{s:fJ}(h:uJ m s)(V:1<=m):(pm s:Int)<=100*m:=by
 rcases h.2.2.2 with rfl|h
 .simp[pm];omega
 .rw[Lp];exact h
def nD:fJ->fJ->Int->Int
 |a::s,b::t,x=>nD s t (W<|x+W (a*b))
 |_,_,x=>x
def jv:fJ->fJ->fJ->Prop
 |[],[],[]=>True
 |n::s,l::lo,h::hi=>(0<=l/\l<=h/\h<=n)/\jv s lo hi
 |_,_,_=>False
def okB:fJ->fJ->fJ->Prop
 |[],[],[]=>True
 |n::s,l::lo,h::hi=>(0<=l/\l<h/\h<=n)/\okB s lo hi
 |_,_,_=>False
def gm:fJ->fJ->Bool
 |l::lo,h::hi=>decide (l<h) &&gm lo hi
 |_,_=>J
def tK:fJ->fJ->fJ
 |l::lo,h::hi=>(h - l)::tK lo hi
 |_,_=>[]
def jb:∀{s lo hi:fJ},jv s lo hi->I lo=I s/\(I hi)=I s
 |[],[],[],_=>⟨rfl,rfl⟩
 |n::s,l::lo,h::hi,H=>by have:=jb H.2;simp[this]
 |[],_::_,_,h=>by simp[jv]at h
 |[],[],_::_,h=>by simp[jv]at h
 |_::_,[],_,h=>by simp[jv]at h
 |_::_,_::_,[],h=>by simp[jv]at h
def vG:∀{s lo hi:fJ},jv s lo hi->gm lo hi=J->okB s lo hi
 |[],[],[],_,_=>trivial
 |n::s,l::lo,h::hi,H,f=>by simp only[gm,jE,zE]at f;obtain⟨⟨k1,k2,k3⟩,c⟩:=H;exact⟨⟨k1,f.1,k3⟩,vG c f.2⟩
 |[],_::_,_,h,_=>by simp[jv]at h
 |[],[],_::_,h,_=>by simp[jv]at h
 |_::_,[],_,h,_=>by simp[jv]at h
 |_::_,_::_,[],h,_=>by simp[jv]at h
def CI:∀{s lo hi:fJ},okB s lo hi->1<=fQ (tK lo hi)/\fQ (tK lo hi)<=fQ s
 |[],[],[],_=>⟨aG _,aG _⟩
 |n::s,l::lo,h::hi,H=>by obtain⟨⟨k1,k2,k3⟩,c⟩:=H;obtain⟨d,e⟩:=CI c;rw[tK,gx,gx];have a:=bn (show 1<=h - l by omega) d y9 y9;have b:=bn (show h - l<=n by omega) e y9 y9;omega
 |[],_::_,_,h=>by simp[okB]at h
 |[],[],_::_,h=>by simp[okB]at h
 |_::_,[],_,h=>by simp[okB]at h
 |_::_,_::_,[],h=>by simp[okB]at h
def RM:∀(lo hi c d:fJ),I c=I d->I lo=I hi->I c+I lo<=600->Yv (c++lo,d++hi,(I c:Int))=O (if gm lo hi then .inr ()else .inl ())
 |[],[],c,d,f,j,h=>by rw[Yv];simp only[Q1,ai];rfl
 |l::lo,h::hi,c,d,f,j,hl=>by
  rw[Yv];have k:idx (d++h::hi) (I c:Int)=O h:=by rw[f];exact Qv
  have e:=RM lo hi (c++[l]) (d++[h]) (by simp[f]) (by simpa using j) (by simp at hl |-;omega);rw[<-Qs,<-Qs]at e;simp only[QX,ak,k,Qv,Qf,X8 hl,e,gm];by_cases g:l<h
  .rw[ae (show¬l>=h by omega)];simp only[g,decide_true,bg]
  .rw[aj (show l>=h by omega)];simp only[g,y5,cm];rfl
 |[],_::_,_,_,_,h,_=>by cases h
 |_::_,[],_,_,_,h,_=>by cases h
def B8:∀{s lo hi:fJ},okB s lo hi->∀n∈s,1<=n
 |[],_,_,_,n,hn=>by simp at hn
 |m::s,l::lo,h::hi,H,n,hn=>by
  obtain⟨⟨k1,k2,k3⟩,c⟩:=H;rcases ar.1 hn with rfl|hn
  .omega
  .exact B8 c n hn
 |_::_,[],_,h,_,_=>by simp[okB]at h
 |_::_,_::_,[],h,_,_=>by simp[okB]at h
def Rq:∀(s lo hi c d:fJ) (v:Int),okB s lo hi->I c=I d->I c+I lo<=600->1<=v->v*fQ s<=65536->Yw (c++lo,d++hi,v,(I c:Int))=O (v*fQ (tK lo hi))
 |[],[],[],c,d,v,H,f,h,g,k=>by rw[Yw];simp only[Q1,ai,tK,iC,bL]
 |n::s,l::lo,h::hi,c,d,v,H,f,hl,g,k=>by
  rw[Yw];have j:=gu (λm V=>B8 H m<|jG _ V);obtain⟨⟨k1,k2,k3⟩,p⟩:=H;have q:idx (d++h::hi) (I c:Int)=O h:=by rw[f];exact Qv
  rw[gx,<-bo]at k;have r:v*(h - l)<=v*n:=aZ y9 y9;have b1:1<=v*(h - l):=by have:=bn g (show 1<=h - l by omega) y9 y9;omega
  have b2:(v*n)*1<=v*n*fQ s:=aZ j y9;have w:1*n<=v*n:=aK g y9;have x:v*(h - l)*fQ s<=v*n*fQ s:=aK r y9;have t:W (h - l)=h - l:=kP y9 y9;have u:W (v*(h - l))=v*(h - l):=kP y9 y9;have e:=Rq s lo hi (c++[l]) (d++[h]) (v*(h - l)) p (by simp[f]) (by simp at hl |-;omega) b1 y9;rw[<-Qs,<-Qs]at e;simp only[QX,ak,q,Qv,Qf,X8 hl,t,u,e,tK,gx,bo]
 |[],_::_,_,_,_,_,h,_,_,_,_=>by simp[okB]at h
 |[],[],_::_,_,_,_,h,_,_,_,_=>by simp[okB]at h
 |_::_,[],_,_,_,_,h,_,_,_,_=>by simp[okB]at h
 |_::_,_::_,[],_,_,_,h,_,_,_,_=>by simp[okB]at h
def zo(lo hi:fJ):Int:=if gm lo hi then fQ (tK lo hi)else 0
def uH{s lo hi:fJ}(g:fQ s<=65536)(e:I lo=I hi)(hl:I lo<=600)(H:gm lo hi=J->okB s lo hi):X6 (lo,hi)=O (zo lo hi):=by
 have c:=RM lo hi [] [] rfl e (by simpa using hl);simp only[jQ,jL,jJ]at c;unfold X6 zo;by_cases f:gm lo hi=J
 .have d:=Rq s lo hi [] [] 1 (H f) rfl (by simpa using hl) y9 y9;simp only[jQ,jL,jJ,bX]at d;simp only[c,f,ak,Qf,d]
 .simp only[c,f,ai,Qf];rfl
def DX{s lo hi:fJ}(H:gm lo hi=J->okB s lo hi):(decide<|zo lo hi>0)=gm lo hi:=by
 unfold zo;by_cases f:gm lo hi=J
 .have:=(CI<|H f).1;rw[aj f,f];exact decide_eq_true y9
 .rw[ae f,(aS _).mp f];decide
def wN{s lo hi:fJ}(H:gm lo hi=J->okB s lo hi):(zo lo hi==0)=!gm lo hi:=by
 unfold zo;by_cases f:gm lo hi=J
 .have:=(CI<|H f).1;rw[aj f,f];simp;omega
 .rw[ae f,(aS _).mp f];decide
def gA(x:Qa):Bool:=gm x.box.lo x.box.hi
def Wb(s lo hi:fJ):Prop:=I lo=I s/\(I hi)=I s/\(gm lo hi=J->okB s lo hi)
def vj{s lo hi:fJ}(h:jv s lo hi):Wb s lo hi:=⟨(jb h).1,(jb h).2,vG h⟩
def Cn{s:fJ}(d:fQ s<=65536)(k:I s<=600):∀(l p:List Qa) (g:Nat) (out:List Qa),I p+I l<=100000->I out<=I p->(∀x∈l,Wb s x.box.lo x.box.hi)->∃g',QV (p++l,g,out,(I p:Int))=O (g',out++l.filter gA)
 |[],p,g,out,h,m,hw=>by rw[QV];simp only[Q1,ai];exact⟨g,by simp⟩
 |x::l,p,g,out,h,m,hw=>by
  rw[QV];have c:=hw x (jM ..);obtain⟨l1,l2,c⟩:=c;have hc:=uH d (l1.trans l2.symm) y9 c;have n:W ((I p:Int)+1)=(I (p++[x]):Int):=by simp at h;rw[kP y9 y9];simp
  simp only[QX,ak,Qv,Qf,Wj,Ju,hc,DX c,n];by_cases f:gm x.box.lo x.box.hi=J
  .obtain⟨g',e⟩:=Cn d k l (p++[x]) (g+1) (out++[x]) (by simp at h |-;omega) yA (λy j=>hw y<|jG _ j);rw[<-Qs]at e;refine⟨g',?_⟩;rw[aj f,gn (by simp at h |-;omega) y9,Qf,e,aO (by exact f)];simp
  .obtain⟨g',e⟩:=Cn d k l (p++[x]) g out (by simp at h |-;omega) yA (λy j=>hw y<|jG _ j);rw[<-Qs]at e;refine⟨g',?_⟩;rw[ae f,e,aP (by exact f)]
def EC:∀{a b:fJ},a≠b->¬iH a b<0->iH b a<0
 |[],[],h,_=>absurd rfl h
 |[],_::_,_,h=>by simp[iH]at h
 |_::_,[],_,_=>by simp[iH]
 |x::a,y::b,h,g=>by
  simp only[iH]at g |-;split at g
  .exact absurd (show(-1:Int)<0 by decide) g
  .split at g
   .rw[aj y9];decide
   .have e:x=y:=by omega
    subst e;rw[ae y9,ae y9];exact EC (λe=>h (by rw[e])) g
def Nl(x:Qa):∀l:List Qa,∃z m,tE x l=z::m/\(z=x\/∃c,l=z::c)
 |[]=>⟨x,[],rfl,.inl rfl⟩
 |y::l=>by
  rw[tE];split
  .exact⟨y,_,rfl,.inr ⟨l,rfl⟩⟩
  .exact⟨x,_,rfl,.inl rfl⟩
def sT(x:Qa):∀l:List Qa,jw l=J->(∀y∈l,y.box.lo≠x.box.lo)->jw (tE x l)=J
 |[],_,_=>rfl
 |y::l,h,hn=>by
  have hl:jw l=J:=by
   cases l with
   |nil=>rfl
   |cons z l=>simp only[jw,jE]at h;exact h.2
  rw[tE];by_cases g:iH y.box.lo x.box.lo<0
  .rw[aj g];have d:=sT x l hl (λz c=>hn z<|jG _ c);obtain⟨z,m,e,c⟩:=Nl x l;rw[e]at d |-;simp only[jw,jE,zE];refine⟨?_,d⟩;rcases c with rfl|⟨f,rfl⟩
   .exact g
   .simp only[jw,jE,zE]at h;exact h.1
  .rw[ae g];simp only[jw,jE,zE];exact⟨EC (hn y<|jM ..) g,h⟩
def nr:∀{l:List Qa},l.Pairwise (λa b=>a.box.lo≠b.box.lo)->jw (iY l)=J
 |[],_=>rfl
 |x::l,h=>by obtain⟨c,d⟩:=aM.1 h;exact sT x (iY l) (nr d) (λy e=>(c y<|(mT l).mem_iff.1 e).symm)
def Av{s:fJ}(c:fQ s<=65536)(d:I s<=600){l:List Qa}(hl:I l<=100000)(hw:∀x∈l,Wb s x.box.lo x.box.hi)(f:(l.filter gA).Pairwise λa b=>a.box.lo≠b.box.lo):ZI l=O (iY<|l.filter gA):=by
 obtain⟨g',e⟩:=Cn c d l [] 0 [] (by simpa using hl) yB hw;have e':QV (l,0,[],0)=O (g',l.filter gA):=e;have j:=cR gA l
 have es:Eu (l.filter gA)=O (iY<|l.filter gA):=by refine aj ⟨by omega,?_,nr f⟩;rw[j8];intro x g;have:=(hw x (bp.1 g).1).1;exact decide_eq_true y9
 simp only[ZI,Y0,e',Qf,es];rw[fX (mT _).length_eq];rfl
def sM{s:fJ}(d:fQ s<=65536)(e:I s<=600)(x:Qa)(hw:jv s x.box.lo x.box.hi):ZI [x]=O (if gA x then[x]else[]):=by
 rw[Av d e (l:=[x]) yB (λy c=>by simp at c;rw[c];exact vj hw) (by by_cases f:gA x=J<;>simp[eG,f])];by_cases f:gA x=J
 .rw[aO f,aj f];rfl
 .rw[aP f,ae f];rfl
def gE{n:Int}(c:-1000000000000<=n)(d:n<=1000000000000):W n=n:=kP y9 y9
def pY{n:Nat}(h:n<=1000000):W ((n:Int)+1)=((n+1:Nat):Int):=by rw[gE y9 y9];omega
def kH{c:Type}{l:List c}{i:Nat}{x:c}(h:l[i]?=O x):idx l (i:Int)=O x:=by obtain⟨d,e⟩:=af.1 h;rw[ky d,e]
def yQ(s:fJ)(h:I s<=600):kj 8 (I s:Int) (0:Int)=O (Nab (I s) 0):=by
 have:((I s:Int)*8<=(jd:Int)):=by
  have:(1000:Nat)*8<=jd:=by decide +kernel
  omega
 simp[kj,this];omega
def tO(s:fJ)(h:I s<=600):∃g,Xa s=O (g,Nab (I s) 0,s):=by refine⟨mg<|Nab (I s) (0:Int),?_⟩;simp only[Xa,yQ s h,Qf,Qy,gn (b:=8) (l:=([]:fJ)) (es:=s) yA y9,jQ]
def lb(b:Int)(s:fJ):Qa:=⟨⟨Nab (I s) 0,s⟩,⟨2,b,0,ig s,0,0,0⟩⟩
def lk:∀{s:fJ},(∀n∈s,0<=n)->jv s (Nab (I s) 0) s
 |[],_=>trivial
 |n::s,h=>by rw[zH,aB];have:=h n (jM ..);exact⟨⟨aG _,this,aG _⟩,lk λm V=>h m<|jG _ V⟩
def om:∀{s:fJ},(∀n∈s,1<=n)->gm (Nab (I s) 0) s=J
 |[],_=>rfl
 |n::s,h=>by rw[zH,aB,gm,om λm V=>h m<|jG _ V];have:=h n (jM ..);simp;omega
def AB{s:fJ}(h:∀n∈s,0<=n):gm (Nab (I s) 0) s=if fQ s=0 then U else J:=by
 by_cases z:fQ s=0
 .rw[aj z];cases f:gm (Nab (I s) 0) s with
  |false=>rfl
  |true=>
   have:=gu (B8<|vG (lk h) f);omega
 .rw[ae z,om<|gW h z]
def Ku(b:Int){s:fJ}(hc:fY s=0):Um (b,s)=O (if fQ s=0 then[]else[lb b s]):=by
 obtain⟨j,c,e⟩:=fT hc;obtain⟨g,f⟩:=tO s y9;have hn:∀n∈s,0<=n:=λn hn=>(e n hn).1
 have d:Sm (I s):=hZ (show I s<=1000 by omega);unfold Um;simp only[f,Qf,Vu];by_cases z:fQ s=0
 .have es:Xt s=O (Nab (I s) 0):=by simp only[Xt,nl s d,Qf,hc,ne_eq,not_true,ai,yQ s y9,kL s d,jf,z,ak]
  simp only[es,Qf];rw[sM c y9 _ (lk hn),Qf,gA,AB hn,aj z];simp[z]
 .simp only[qA hc (gW hn z),Qf];rw[sM c y9 _ (lk hn),Qf,gA,AB hn,ae z,ae z];simp[lb]
def kh:fJ->fJ->fJ->Bool
 |[],[],[]=>J
 |l::lo,h::hi,i::is=>(decide (l<=i) &&decide (i<h)) &&kh lo hi is
 |_,_,_=>U
def tp:fJ->fJ->Bool
 |a::a',b::b'=>if a≠b then decide (a<b)else tp a' b'
 |_,_=>U
def ki:∀{s lo hi:fJ},okB s lo hi->I lo=I s/\(I hi)=I s
 |[],[],[],_=>⟨rfl,rfl⟩
 |n::s,l::lo,h::hi,H=>by have:=ki H.2;simp[this]
 |[],_::_,_,h=>by simp[okB]at h
 |[],[],_::_,h=>by simp[okB]at h
 |_::_,[],_,h=>by simp[okB]at h
 |_::_,_::_,[],h=>by simp[okB]at h
def W_l{p:fJ}{x:Int}(h:I p<=100000):W ((I p:Int)+1)=(I (p++[x]):Int):=by rw[gE y9 y9];simp
section
variable{s:fJ}
end
def CL(lo t n:Int):Int:=if t<(if W (lo - n)<0 then 0 else W (lo - n))then t else(if W (lo - n)<0 then 0 else W (lo - n))
def IZ(lo hi t n:Int):Int:=if CL lo t n<(if t<W (hi - n)then t else W (hi - n))then(if t<W (hi - n)then t else W (hi - n))else CL lo t n
def tg:fJ->fJ->fJ->fJ
 |l::lo,t::ts,n::st=>CL l t n::tg lo ts st
 |_,_,_=>[]
def ti:fJ->fJ->fJ->fJ->fJ
 |l::lo,h::hi,t::ts,n::st=>IZ l h t n::ti lo hi ts st
 |_,_,_,_=>[]
def LA{lo t n:Int}(h:0<=t):0<=CL lo t n/\CL lo t n<=t:=by unfold CL;generalize W (lo - n)=x;split <;>split <;>omega
def SJ{lo hi t n:Int}(h:0<=t):CL lo t n<=IZ lo hi t n/\IZ lo hi t n<=t:=by have:=LA (lo:=lo) (n:=n) h;unfold IZ;generalize W (hi - n)=y;generalize CL lo t n=x at *;split <;>split <;>omega
def GM:∀(st lo t hi c d e f o1 o2:fJ),I lo=I st->I t=I st->I hi=I st->I d=I c->I e=I c->I f=I c->I c+I st<=600->I o1=I c->I o2=I c->
  YR (c++st,d++lo,e++t,f++hi,o1,o2,(I c:Int))=O (o1++tg lo t st,o2++ti lo hi t st)
 |[],[],[],[],c,d,e,f,o1,o2,_,_,_,_,_,_,hl,_,_=>by rw[YR];simp only[Q1,ai];simp only[tg,ti,jV]
 |n::st,l::lo,t::ts,h::hi,c,d,e,f,o1,o2,r,s,u,g,j,k,hl,q1,q2=>by
  rw[YR];have v:idx (d++l::lo) (I c:Int)=O l:=by rw[<-g];exact Qv
  have w:idx (e++t::ts) (I c:Int)=O t:=by rw[<-j];exact Qv
  have x:idx (f++h::hi) (I c:Int)=O h:=by rw[<-k];exact Qv
  have m:=GM st lo ts hi (c++[n]) (d++[l]) (e++[t]) (f++[h]) (o1++[CL l t n]) (o2++[IZ l h t n]) (by simpa using r) (by simpa using s) (by simpa using u) (by simp[g]) (by simp[j]) (by simp[k]) (by simp at hl |-;omega) (by simp[q1]) (by simp[q2]);rw[<-Qs,<-Qs,<-Qs,<-Qs]at m;have p:app 8 o1 [CL l t n]=O (o1++[CL l t n]):=gn (by simp at hl |-;omega) y9;have q:app 8 o2 [IZ l h t n]=O (o2++[IZ l h t n]):=gn (by simp at hl |-;omega) y9;unfold CL at p;unfold IZ CL at q;simp only[QX,ak,Qv,v,w,x,Qf,p,q,X8 hl];refine m.trans ?_;rw[tg,ti];simp
 |[],_::_,_,_,_,_,_,_,_,_,h,_,_,_,_,_,_,_,_=>by simp at h
 |[],_,_::_,_,_,_,_,_,_,_,_,h,_,_,_,_,_,_,_=>by simp at h
 |[],_,_,_::_,_,_,_,_,_,_,_,_,h,_,_,_,_,_,_=>by simp at h
 |_::_,[],_,_,_,_,_,_,_,_,h,_,_,_,_,_,_,_,_=>by simp at h
 |_::_,_,[],_,_,_,_,_,_,_,_,h,_,_,_,_,_,_,_=>by simp at h
 |_::_,_,_,[],_,_,_,_,_,_,_,_,h,_,_,_,_,_,_=>by simp at h
def If{lo hi t st:fJ}(c:I lo=I st)(d:I t=I st)(f:I hi=I st)(hl:I st<=600):JY (lo,hi,t,st)=O ⟨tg lo t st,ti lo hi t st⟩:=by have e:=GM st lo t hi [] [] [] [] [] [] c d f rfl rfl rfl (by simpa using hl) rfl rfl;simp only[jQ,jL,jJ]at e;simp only[JY,e,Qf]
def pk:∀{lo hi t st:fJ},I lo=I st->I t=I st->I hi=I st->(∀n∈t,0<=n)->jv t (tg lo t st) (ti lo hi t st)
 |[],[],[],[],_,_,_,_=>trivial
 |l::lo,h::hi,t::ts,n::st,d,e,j,c=>by have h0:=c t (jM ..);have f:=LA (lo:=l) (n:=n) h0;have g:=SJ (lo:=l) (hi:=h) (n:=n) h0;exact⟨⟨f.1,g.1,g.2⟩,pk (by simpa using d) (by simpa using e) (by simpa using j) λm V=>c m<|jG _ V⟩
 |_::_,_,_,[],h,_,_,_=>by simp at h
 |_,_::_,_,[],_,_,h,_=>by simp at h
 |_,_,_::_,[],_,h,_,_=>by simp at h
 |[],_,_,_::_,h,_,_,_=>by simp at h
 |_,[],_,_::_,_,_,h,_=>by simp at h
 |_,_,[],_::_,_,h,_,_=>by simp at h
def sD(a b:Int):Int:=if a<b then b else a
def tf(a b:Int):Int:=if b<a then b else a
def Rj:∀(a b c d o:fJ),I a=I b->I c=I d->I c+I a<=600->I o=I c->Q4 (c++a,d++b,o,(I c:Int))=O (o++Nac sD a b)
 |[],[],c,d,o,_,_,hl,_=>by rw[Q4];simp only[Q1,ai];simp only[ff,jV]
 |x::a,y::b,c,d,o,g,e,hl,j=>by
  rw[Q4];have k:idx (d++y::b) (I c:Int)=O y:=by rw[e];exact Qv
  have f:=Rj a b (c++[x]) (d++[y]) (o++[sD x y]) (by simpa using g) (by simp[e]) (by simp at hl |-;omega) (by simp[j]);rw[<-Qs,<-Qs]at f;have l:app 8 o [sD x y]=O (o++[sD x y]):=gn (by simp at hl |-;omega) y9;simp only[QX,ak,Qv,k,Qf,V4,X8 hl];show(app 8 o [sD x y]>>=_)=_
  rw[l,Qf];refine f.trans ?_;simp
 |[],_::_,_,_,_,h,_,_,_=>by cases h
 |_::_,[],_,_,_,h,_,_,_=>by cases h
def RP:∀(a b c d o:fJ),I a=I b->I c=I d->I c+I a<=600->I o=I c->Q5 (c++a,d++b,o,(I c:Int))=O (o++Nac tf a b)
 |[],[],c,d,o,_,_,hl,_=>by rw[Q5];simp only[Q1,ai];simp only[ff,jV]
 |x::a,y::b,c,d,o,g,e,hl,j=>by
  rw[Q5];have k:idx (d++y::b) (I c:Int)=O y:=by rw[e];exact Qv
  have f:=RP a b (c++[x]) (d++[y]) (o++[tf x y]) (by simpa using g) (by simp[e]) (by simp at hl |-;omega) (by simp[j]);rw[<-Qs,<-Qs]at f;have l:app 8 o [tf x y]=O (o++[tf x y]):=gn (by simp at hl |-;omega) y9;simp only[QX,ak,Qv,k,Qf,VD,X8 hl];show(app 8 o [tf x y]>>=_)=_
  rw[l,Qf];refine f.trans ?_;simp
 |[],_::_,_,_,_,h,_,_,_=>by cases h
 |_::_,[],_,_,_,h,_,_,_=>by cases h
def DE{s al ah bl bh:fJ}(j:fQ s<=65536)(k:I al=I bl)(l:I ah=I bh)(n:I al=I ah)(hl:I al<=600)(H:gm (Nac sD al bl) (Nac tf ah bh)=J->okB s (Nac sD al bl) (Nac tf ah bh)):
  XT (⟨al,ah⟩,⟨bl,bh⟩)=O (if gm (Nac sD al bl) (Nac tf ah bh)then(⟨Nac sD al bl,Nac tf ah bh⟩,J)else(⟨[],[]⟩,U)):=by
 have d:=Rj al bl [] [] [] k rfl (by simpa using hl) rfl;have e:=RP ah bh [] [] [] l rfl yA rfl;simp only[jQ,jL,jJ]at d e;have hc:=uH j (lo:=Nac sD al bl) (hi:=Nac tf ah bh) yA yA H;have g:¬((I al:Int)≠(I bl:Int)):=by omega
 have c:=wN H;simp only[XT,g,ai,YD,YF,d,e,Qf,hc];by_cases f:gm (Nac sD al bl) (Nac tf ah bh)=J
 .rw[f]at c |-;rw[ae (by simpa using c)];rfl
 .have m:=(aS _).mp f;rw[m]at c |-;rw[aj (by simpa using c)];rfl
def Lt:∀{s e f:fJ},jv s e f->Nac sD (Nab (I s) 0) e=e/\Nac tf s f=f
 |[],[],[],_=>⟨rfl,rfl⟩
 |n::s,c::e,d::f,h=>by
  obtain⟨⟨k1,k2,k3⟩,g⟩:=h;obtain⟨j,k⟩:=Lt g;rw[zH,aB,aX,aX,j,k];have a:sD 0 c=c:=by unfold sD;split <;>omega
  have b:tf n d=d:=by unfold tf;split <;>omega
  rw[a,b];exact⟨rfl,rfl⟩
 |[],_::_,_,h=>by simp[jv]at h
 |[],[],_::_,h=>by simp[jv]at h
 |_::_,[],_,h=>by simp[jv]at h
 |_::_,_::_,[],h=>by simp[jv]at h
def jl:fJ->fJ->fJ->fJ->List (fJ×fJ)
 |a::al,b::ah,c::e,d::f=>(a::al,c::ah)::(d::al,b::ah)::(jl al ah e f).map λx=>(c::x.1,d::x.2)
 |_,_,_,_=>[]
def rH:fJ->fJ->fJ->fJ->Prop
 |[],[],[],[]=>True
 |a::al,b::ah,c::e,d::f=>a<=c/\c<=d/\d<=b/\rH al ah e f
 |_,_,_,_=>False
def l7(b:Qo):Bool:=gm b.lo b.hi
def Cg:∀{sp c d e l h:fJ},jv sp c d->jv e l h->jv (sp++e) (c++l) (d++h)
 |[],[],[],_,_,_,_,h=>h
 |n::s,a::c,b::d,e,l,h,k,f=>⟨k.1,Cg k.2 f⟩
 |[],_::_,_,_,_,_,h,_=>by simp[jv]at h
 |[],[],_::_,_,_,_,h,_=>by simp[jv]at h
 |_::_,[],_,_,_,_,h,_=>by simp[jv]at h
 |_::_,_::_,[],_,_,_,h,_=>by simp[jv]at h
def OT{c d lo hi:fJ}{x y a b:Int}{k:Int}(f:k=(I c:Int))(e:I c=I d)(m:I lo=I hi)(hl:I c+I lo<=500):Oh (⟨c++x::lo,d++y::hi⟩,k,a,b)=O ⟨c++a::lo,d++b::hi⟩:=by
 subst f;have c1:Qy (c++x::lo)=O (c++x::lo):=gn yA y9;have c2:Qy (d++y::hi)=O (d++y::hi):=gn yA y9;have g:iM (c++x::lo) (I c:Int) a=O (c++a::lo):=by rw[iV yB,oX,<-Qs]
 have j:iM (d++y::hi) (I c:Int) b=O (d++b::hi):=by rw[e,iV yB,oX,<-Qs]
 have l:idx (d++y::hi) (I c:Int)=O y:=by rw[e];exact Qv
 simp only[Oh,c1,c2,Qf,Qv,g,l,j];rw[fX yB,Qf,fX yB,Qf]
def Nv{s:fJ}(d:fQ s<=65536)(e:I s<=600){b:Qo}(c:jv s b.lo b.hi):Xj b=O (!gm b.lo b.hi):=by obtain⟨l1,l2⟩:=jb c;simp only[Xj,Ju,uH d (l1.trans l2.symm) y9<|vG c,Qf,wN<|vG c]
def Un{s:fJ}(g:fQ s<=65536)(j:I s<=600){q0 q1 q2 q3 q4 q5 q6 q7:fJ}{n:Nat}{b1 b2:Qo}(k:jv s b1.lo b1.hi)(l:jv s b2.lo b2.hi):
  JP (q0,q1,q2,q3,q4,q5,q6,q7,b1.lo,b1.hi,b2.lo,b2.hi,n)=O (if l7 b1 then(if l7 b2 then .inr (.inr ())else .inl (b1.lo,b1.hi))else(if l7 b2 then .inl (b2.lo,b2.hi)else .inr (.inl ()))):=by
 have m:=Nv g j k;have p:=Nv g j l;simp only[JP,Zy,ZB,l7];have c:Xj ⟨b1.lo,b1.hi⟩=O (!gm b1.lo b1.hi):=m;have d:Xj ⟨b2.lo,b2.hi⟩=O (!gm b2.lo b2.hi):=p;by_cases f:gm b1.lo b1.hi=J
 .by_cases e:gm b2.lo b2.hi=J
  .simp only[c,d,f,e,Qf];rfl
  .simp only[c,d,f,(aS _).mp e,Qf];rfl
 .by_cases e:gm b2.lo b2.hi=J
  .simp only[c,d,(aS _).mp f,e,Qf];rfl
  .simp only[c,d,(aS _).mp f,(aS _).mp e,Qf];rfl
def DR{s:fJ}(H:fQ s<=65536)(c1:Qo):∀(w sp al ah l m j k f g:fJ) (out:List Qo),s=sp++w->jv w al ah->rH al ah l m->jv sp f g->I j=I sp->I k=I sp->I s<=200->I out<=2*I sp->
  ∃p q,Xi (⟨j++al,k++ah⟩,⟨f++l,g++m⟩,c1,f++al,g++ah,out,(I sp:Int))=O (p,q,out++((jl al ah l m).map λx=>(⟨f++x.1,g++x.2⟩:Qo)).filter l7)
 |[],sp,[],[],[],[],j,k,f,g,out,e,hw,hi,z,D,E,hl,K=>by
  rw[Xi]
  have:¬((I sp:Int)<(I (j++([]:fJ)):Int)):=by simp;omega
  simp only[this,ai];exact⟨f++[],g++[],by simp[jl]⟩
 |n::w,sp,a::al,b::ah,c::l,d::m,j,k,f,g,out,e,hw,hi,z,D,E,hl,K=>by
  rw[Xi];obtain⟨⟨k1,k2,k3⟩,B⟩:=hw;obtain⟨L,M,N,P⟩:=hi;obtain⟨m1,m2⟩:=jb z;obtain⟨n1,n2⟩:=jb B;have Q:I sp+I w+1<=200:=by rw[e]at hl;simp at hl;omega
  have g1:((I sp:Int)<(I (j++a::al):Int)):=by simp;omega
  have R:idx (j++a::al) (I sp:Int)=O a:=by rw[<-D];exact Qv
  have S:idx (f++c::l) (I sp:Int)=O c:=by rw[<-m1];exact Qv
  have T:idx (g++d::m) (I sp:Int)=O d:=by rw[<-m2];exact Qv
  have X:idx (k++b::ah) (I sp:Int)=O b:=by rw[<-E];exact Qv
  have Y:∀x y:Int,Oh (⟨f++a::al,g++b::ah⟩,(I sp:Int),x,y)=O ⟨f++x::al,g++y::ah⟩:=λx y=>OT (by rw[m1]) y9 y9 y9
  have F:jv s (f++a::al) (g++c::ah):=by rw[e];exact Cg z ⟨⟨k1,L,by omega⟩,B⟩
  have G:jv s (f++d::al) (g++b::ah):=by rw[e];exact Cg z ⟨⟨by omega,N,k3⟩,B⟩
  have ef:=Un H y9 (q0:=j++a::al) (q1:=k++b::ah) (q2:=c1.lo) (q3:=c1.hi) (q4:=f++c::l) (q5:=g++d::m) (q6:=f++a::al) (q7:=g++b::ah) (n:=I out) (b1:=⟨f++a::al,g++c::ah⟩) (b2:=⟨f++d::al,g++b::ah⟩) F G;have C:W ((I sp:Int)+1)=(I (sp++[n]):Int):=by rw[gE y9 y9];simp
  have A:=λt (h:I t<=2*I (sp++[n]))=>DR H c1 w (sp++[n]) al ah l m (j++[a]) (k++[b]) (f++[c]) (g++[d]) t (by rw[e,Qs]) B P (Cg z ⟨⟨by omega,M,by omega⟩,trivial⟩) (by simp[D]) (by simp[E]) hl h
  simp only[<-Qs]at A
  have em:((jl (a::al) (b::ah) (c::l) (d::m)).map λx=>(⟨f++x.1,g++x.2⟩:Qo))=⟨f++a::al,g++c::ah⟩::⟨f++d::al,g++b::ah⟩::((jl al ah l m).map λx=>(⟨f++c::x.1,g++d::x.2⟩:Qo)):=by rw[jl,zV,zV,zG];rfl
  rw[em];simp only[g1,ak,R,S,T,X,Qf,Y,ef];by_cases u:l7 ⟨f++a::al,g++c::ah⟩=J
  .by_cases r:l7 ⟨f++d::al,g++b::ah⟩=J
   .obtain⟨p,q,v⟩:=A (out++[⟨f++a::al,g++c::ah⟩,⟨f++d::al,g++b::ah⟩]) yA;refine⟨p,q,?_⟩;rw[aO u,aO r];simp only[u,r,ak];rw[gn yA y9,Qf,C,v];simp
   .obtain⟨p,q,v⟩:=A (out++[⟨f++a::al,g++c::ah⟩]) yA;refine⟨p,q,?_⟩;rw[aO u,aP r];simp only[u,r,ak,ai,j6];rw[gn yA y9,Qf,C,v];simp
  .by_cases r:l7 ⟨f++d::al,g++b::ah⟩=J
   .obtain⟨p,q,v⟩:=A (out++[⟨f++d::al,g++b::ah⟩]) yA;refine⟨p,q,?_⟩;rw[aP u,aO r];simp only[u,r,ak,ai,j6];rw[gn yA y9,Qf,C,v];simp
   .obtain⟨p,q,v⟩:=A out yA;refine⟨p,q,?_⟩;rw[aP u,aP r];simp only[u,r,ai,j6];rw[gn yA y9,Qf,C,jV,v]
 |_::_,_,[],_,_,_,_,_,_,_,_,_,h,_,_,_,_,_,_=>by simp[jv]at h
 |_::_,_,_::_,[],_,_,_,_,_,_,_,_,h,_,_,_,_,_,_=>by simp[jv]at h
 |[],_,_::_,_,_,_,_,_,_,_,_,_,h,_,_,_,_,_,_=>by simp[jv]at h
 |[],_,[],_::_,_,_,_,_,_,_,_,_,h,_,_,_,_,_,_=>by simp[jv]at h
 |_,_,_::_,_::_,[],_,_,_,_,_,_,_,_,h,_,_,_,_,_=>by simp[rH]at h
 |_,_,_::_,_::_,_::_,[],_,_,_,_,_,_,_,h,_,_,_,_,_=>by simp[rH]at h
 |_,_,[],[],_::_,_,_,_,_,_,_,_,_,h,_,_,_,_,_=>by simp[rH]at h
 |_,_,[],[],[],_::_,_,_,_,_,_,_,_,h,_,_,_,_,_=>by simp[rH]at h
def ui:∀{s e f:fJ},jv s e f->rH (Nab (I s) 0) s e f
 |[],[],[],_=>trivial
 |n::s,c::e,d::f,h=>by obtain⟨⟨k1,k2,k3⟩,g⟩:=h;rw[zH,aB];exact⟨k1,k2,k3,ui g⟩
 |[],_::_,_,h=>by simp[jv]at h
 |[],[],_::_,h=>by simp[jv]at h
 |_::_,[],_,h=>by simp[jv]at h
 |_::_,_::_,[],h=>by simp[jv]at h
def oN(s c d:fJ):List Qo:=(if gm c d then(jl (Nab (I s) 0) s c d).map λx=>(⟨x.1,x.2⟩:Qo)else[⟨Nab (I s) 0,s⟩]).filter l7
def Ls{s c d:fJ}(j:fQ s<=65536)(q:I s<=100)(h0:∀n∈s,0<=n)(hc:jv s c d):UC (⟨Nab (I s) 0,s⟩,⟨c,d⟩)=O (oN s c d):=by
 obtain⟨l1,l2⟩:=jb hc;obtain⟨k,l⟩:=Lt hc;have m:=DE (s:=s) (al:=Nab (I s) 0) (ah:=s) (bl:=c) (bh:=d) j yA y9 yB yA (by rw[k,l];exact vG hc);rw[k,l]at m;unfold UC oN;dsimp only;rw[m];by_cases f:gm c d=J
 .obtain⟨r,t,e⟩:=DR (s:=s) j ⟨c,d⟩ s [] (Nab (I s) 0) s c d [] [] [] [] [] rfl (lk h0) (ui hc) trivial rfl rfl y9 yB;simp only[jQ,jL,jJ]at e;simp only[f,ak,Qf,jO,ai,e]
 .have c1:Qy (Nab (I s) 0)=O (Nab (I s) 0):=gn yA y9;have c2:Qy s=O s:=gn yA y9;have p:=Nv j y9 (b:=⟨Nab (I s) 0,s⟩) (lk h0);simp only[f,ai,Qf,ak,c1,c2,Wv,Zz,ZC,p,j6];by_cases g:gm (Nab (I s) 0) s=J
  .simp[g,l7,Qf]
  .simp[g,l7,Qf]
def yz:∀(al ah e f:fJ),I (jl al ah e f)<=2*I al
 |a::al,b::ah,c::e,d::f=>by have:=yz al ah e f;simp only[jl,zH,jZ];omega
 |[],_,_,_=>by simp[jl]
 |_::_,[],_,_=>by simp[jl]
 |_::_,_::_,[],_=>by simp[jl]
 |_::_,_::_,_::_,[]=>by simp[jl]
def A5:∀{f al ah g j:fJ},jv f al ah->rH al ah g j->∀x∈jl al ah g j,jv f x.1 x.2
 |n::f,a::al,b::ah,c::g,d::j,⟨⟨k1,k2,k3⟩,k⟩,⟨l,m,p,q⟩,x,e=>by
  rw[jl]at e;rcases ar.1 e with rfl|e
  .exact⟨⟨k1,l,by omega⟩,k⟩
  rcases ar.1 e with rfl|e
  .exact⟨⟨by omega,p,k3⟩,k⟩
  obtain⟨y,r,rfl⟩:=aq.1 e;exact⟨⟨by omega,m,by omega⟩,A5 k q y r⟩
 |[],[],[],_,_,_,_,x,e=>by simp[jl]at e
 |_::_,_::_,_::_,[],_,_,h,_,_=>by simp[rH]at h
 |_::_,_::_,_::_,_::_,[],_,h,_,_=>by simp[rH]at h
 |[],_::_,_,_,_,h,_,_,_=>by simp[jv]at h
 |[],[],_::_,_,_,h,_,_,_=>by simp[jv]at h
 |_::_,[],_,_,_,h,_,_,_=>by simp[jv]at h
 |_::_,_::_,[],_,_,h,_,_,_=>by simp[jv]at h
def wh(c d x:Int)(i:fJ)(l:List (fJ×fJ)):
  (l.map λy=>(c::y.1,d::y.2)).filter (λy=>kh y.1 y.2 (x::i))=if c<=x/\x<d then(l.filter λy=>kh y.1 y.2 i).map λy=>(c::y.1,d::y.2)else[]:=by
 rw[List.filter_map];by_cases h:c<=x/\x<d
 .rw[aj h];congr 1;refine List.filter_congr λy _=>?_
  simp[kh,h.1,h.2]
 .rw[ae h]
  have:(l.filter ((λy:fJ×fJ=>kh y.1 y.2 (x::i))∘ λy=>(c::y.1,d::y.2)))=[]:=by
   refine List.filter_eq_nil_iff.2 λy _=>?_
   simp only[Function.comp,kh,jE,zE];exact λe=>h e.1
  rw[this];rfl
def vt:∀(al ah e f i:fJ),rH al ah e f->kh al ah i=J->
  (kh e f i=J->(jl al ah e f).filter (λy=>kh y.1 y.2 i)=[])/\(kh e f i=U->∃q,(jl al ah e f).filter (λy=>kh y.1 y.2 i)=[q])
 |[],[],[],[],[],_,_=>⟨λ_=>rfl,λh=>by simp[kh]at h⟩
 |a::al,b::ah,c::e,d::f,x::i,m,hi=>by
  obtain⟨s,t,u,g⟩:=m;simp only[kh,jE,zE]at hi;obtain⟨j,k⟩:=vt al ah e f i g hi.2;have e0:kh (a::al) (c::ah) (x::i)=decide (x<c):=by simp[kh,hi.1.1,hi.2]
  have n:kh (d::al) (b::ah) (x::i)=decide (d<=x):=by simp[kh,hi.1.2,hi.2]
  have p:kh (c::e) (d::f) (x::i)=(decide (c<=x) &&decide (x<d) &&kh e f i):=rfl;rw[jl,eG,eG,wh,p];simp only[e0,n];by_cases c1:x<c
  .have n1:¬d<=x:=by omega
   have n2:¬(c<=x/\x<d):=by omega
   have n3:¬c<=x:=by omega
   rw[ae n2];simp[c1,n1,n3]
  .by_cases c2:d<=x
   .have n2:¬(c<=x/\x<d):=by omega
    have n3:¬x<d:=by omega
    rw[ae n2];simp[c1,c2,n3]
   .have l:c<=x/\x<d:=by omega
    rw[aj l];simp only[l.1,l.2,decide_true,bg,c1,c2,y5];refine⟨λh=>by simp[j h],λh=>?_⟩;obtain⟨q,r⟩:=k h;exact⟨(c::q.1,d::q.2),by simp[r]⟩
def uh:∀{lo hi i:fJ},kh lo hi i=J->gm lo hi=J
 |[],[],[],_=>rfl
 |l::lo,h::hi,x::i,H=>by simp only[kh,jE,zE]at H;simp only[gm,jE,zE];exact⟨by omega,uh H.2⟩
def xw:∀{s lo hi:fJ},okB s lo hi->iz s lo=J/\kh lo hi lo=J
 |[],[],[],_=>⟨rfl,rfl⟩
 |n::s,l::lo,h::hi,⟨⟨k1,k2,k3⟩,c⟩=>by obtain⟨d,e⟩:=xw c;simp only[iz,kh,d,e,dX,jE,zE];omega
 |[],_::_,_,h=>by simp[okB]at h
 |[],[],_::_,h=>by simp[okB]at h
 |_::_,[],_,h=>by simp[okB]at h
 |_::_,_::_,[],h=>by simp[okB]at h
def rZ:∀{s i:fJ},iz s i=J->kh (Nab (I s) 0) s i=J
 |[],[],_=>rfl
 |n::s,x::i,h=>by simp only[iz,jE,zE]at h;simp only[zH,aB,kh,jE,zE];exact⟨h.1,rZ h.2⟩
 |[],_::_,h=>by cases h
 |_::_,[],h=>by cases h
def ij(i:fJ)(x:Qa):Bool:=kh x.box.lo x.box.hi i
def sN(i:fJ)(l:List Qa):(l.filter gA).countP (ij i)=l.countP (ij i):=by
 rw[List.countP_filter];congr 1
 funext x
 unfold ij gA;cases h:kh x.box.lo x.box.hi i with
 |false=>rfl
 |true=>simp[uh h]
def tI{s:fJ}:∀{l:List Qa},(∀x∈l,okB s x.box.lo x.box.hi)->(∀i,iz s i=J->l.countP (ij i)<=1)->l.Pairwise λa b=>a.box.lo≠b.box.lo
 |[],_,_=>.nil
 |a::l,c,hc=>by
  obtain⟨f,v2⟩:=xw (c a<|jM ..);refine aM.2 ⟨λb d e=>?_,tI (λx g=>c x<|jG _ g) λi hi=>?_⟩
  .have j:=hc a.box.lo f;rw[cK (by exact v2)]at j;have k:0<l.countP (ij a.box.lo):=dg.2 ⟨b,d,by rw[e];exact(xw<|c b<|jG _ d).2⟩;omega
  .have:=hc i hi;rw[bN]at this;omega
def lN:Qj:=⟨1,0,0,[],0,0,0⟩
def ll(b:Qo):Qa:=⟨b,lN⟩
def BV{s d e:fJ}(h0:∀n∈s,0<=n)(hc:jv s d e):∀b∈oN s d e,jv s b.lo b.hi:=λb c=>by
 have c:=(bp.1 c).1;by_cases f:gm d e=J
 .rw[aj f]at c;obtain⟨x,g,rfl⟩:=aq.1 c;exact A5 (lk h0) (ui hc) x g
 .rw[ae f]at c;simp only[jY]at c;subst c;exact lk h0
def D4(s c d:fJ):I (oN s c d)<=2*I s+1:=by
 unfold oN;refine jX (cR _ _) ?_;split
 .have:=yz (Nab (I s) 0) s c d;simp at this |-;omega
 .simp
def Ge{s c d i:fJ}(a:Qj)(hc:jv s c d)(hi:iz s i=J):((⟨⟨c,d⟩,a⟩:Qa)::(oN s c d).map ll).countP (ij i)=1:=by
 have hw:=rZ hi
 have e:((oN s c d).map ll).countP (ij i)=((if gm c d then(jl (Nab (I s) 0) s c d).map λx=>(⟨x.1,x.2⟩:Qo)else[⟨Nab (I s) 0,s⟩])).countP (λb=>kh b.lo b.hi i):=by
  rw[dD,oN,List.countP_filter];congr 1
  funext b
  show(kh b.lo b.hi i &&gm b.lo b.hi)=kh b.lo b.hi i
  cases h:kh b.lo b.hi i with
  |false=>rfl
  |true=>simp[uh h]
 rw[bN,e];by_cases f:gm c d=J
 .rw[aj f,dD];have V:=vt (Nab (I s) 0) s c d i (ui hc) hw;have j:(jl (Nab (I s) 0) s c d).countP ((λb:Qo=>kh b.lo b.hi i)∘ λx=>(⟨x.1,x.2⟩:Qo))=I ((jl (Nab (I s) 0) s c d).filter λy=>kh y.1 y.2 i):=List.countP_eq_length_filter;rw[j];unfold ij;cases g:kh c d i with
  |true=>rw[V.1 g];simp
  |false=>obtain⟨q,k⟩:=V.2 g;rw[k];simp
 .rw[ae f];unfold ij
  have g:kh c d i=U:=by
   cases g:kh c d i with
   |false=>rfl
   |true=>exact absurd (uh g) f
  simp[g,hw]
section
variable{s st:fJ}
end
def BU:∀(l h i:fJ) (k:Nat) (a b x:Int),i[k]?=O x->I l=I i->I h=I i->
  kh (l.set k a) (h.set k b) i=(decide (a<=x) &&decide (x<b) &&kh (l.eraseIdx k) (h.eraseIdx k) (i.eraseIdx k))
 |[],_,i,k,a,b,x,e,hl,_=>by
  have:i=[]:=cd.1 hl.symm
  subst this;simp at e
 |_::_,[],i,k,a,b,x,e,_,f=>by
  have:i=[]:=cd.1 f.symm
  subst this;simp at e
 |_::_,_::_,[],k,a,b,x,e,_,_=>by simp at e
 |c::l,d::h,y::i,0,a,b,x,e,hl,f=>by simp at e;subst e;simp[kh]
 |c::l,d::h,y::i,k+1,a,b,x,e,hl,f=>by have g:=BU l h i k a b x (by simpa using e) (by simpa using hl) (by simpa using f);simp only[bV,kh,g,eO];cases decide (c<=y)<;>cases decide (y<d)<;>cases decide (a<=x)<;>cases decide (x<b)<;>simp
def Sx(l h i:fJ)(k:Nat)(a b x:Int)(d:i[k]?=O x)(f:l[k]?=O a)(g:h[k]?=O b)(hl:I l=I i)(j:I h=I i):
  kh l h i=(decide (a<=x) &&decide (x<b) &&kh (l.eraseIdx k) (h.eraseIdx k) (i.eraseIdx k)):=by
 have m:l.set k a=l:=by obtain⟨c,e⟩:=af.1 f;rw[<-e,cA]
 have n:h.set k b=h:=by obtain⟨c,e⟩:=af.1 g;rw[<-e,cA]
 have:=BU l h i k a b x d hl j
 rwa [m,n]at this
def Bn:∀(l:fJ) (k:Nat) (a:Int),(l.set k a).eraseIdx k=l.eraseIdx k
 |[],k,a=>by simp
 |_::_,0,_=>by simp
 |_::l,k+1,a=>by simp[Bn l k a]
def wQ(l h i:fJ)(k:Nat)(a b x a' b' y:Int)(d:i[k]?=O x)(g:l[k]?=O a)(j:h[k]?=O b)(hl:I l=I i)(f:I h=I i)(q:Bool)(e:(decide (a'<=x) &&decide (x<b'))=(q &&(decide (a<=y) &&decide (y<b)))):
  kh (l.set k a') (h.set k b') i=(q &&kh l h (i.set k y)):=by
 obtain⟨c,_⟩:=af.1 d;rw[BU l h i k a' b' x d hl f,Sx l h (i.set k y) k a b y (by simp[c]) g j (by simpa using hl) (by simpa using f),Bn,e];simp[Bool.and_assoc]
def qU:∀{s l h:fJ} {k:Nat} {n:Int},jv s l h->s[k]?=O n->∃a b,l[k]?=O a/\h[k]?=O b/\0<=a/\a<=b/\b<=n
 |[],_,_,_,_,_,c=>by simp at c
 |n::s,a::l,b::h,0,_,d,c=>by simp at c;subst c;exact⟨a,b,rfl,rfl,d.1.1,d.1.2.1,d.1.2.2⟩
 |n::s,a::l,b::h,k+1,_,d,c=>by obtain⟨x,y,e⟩:=qU d.2 (by simpa using c);exact⟨x,y,by simpa using e⟩
 |_::_,[],_,_,_,h,_=>by simp[jv]at h
 |_::_,_::_,[],_,_,h,_=>by simp[jv]at h
def Fg:∀{s l h:fJ} {k:Nat} {a b m:Int},jv s l h->0<=a->a<=b->b<=m->jv (s.set k m) (l.set k a) (h.set k b)
 |[],[],[],_,_,_,_,_,_,_,_=>by simp[jv]
 |n::s,c::l,d::h,0,a,b,m,e,f,g,j=>⟨⟨f,g,j⟩,e.2⟩
 |n::s,c::l,d::h,k+1,a,b,m,e,f,g,j=>⟨e.1,Fg e.2 f g j⟩
 |[],_::_,_,_,_,_,_,h,_,_,_=>by simp[jv]at h
 |[],[],_::_,_,_,_,_,h,_,_,_=>by simp[jv]at h
 |_::_,[],_,_,_,_,_,h,_,_,_=>by simp[jv]at h
 |_::_,_::_,[],_,_,_,_,h,_,_,_=>by simp[jv]at h
def ka{s:fJ}{k:Nat}{n:Int}(h:s[k]?=O n):s.set k n=s:=by obtain⟨c,e⟩:=af.1 h;rw[<-e,cA]
def wX:∀{s l h:fJ},okB s l h->jv s l h
 |[],[],[],_=>trivial
 |n::s,a::l,b::h,H=>⟨⟨H.1.1,by have:=H.1.2.1;omega,H.1.2.2⟩,wX H.2⟩
 |[],_::_,_,h=>by simp[okB]at h
 |[],[],_::_,h=>by simp[okB]at h
 |_::_,[],_,h=>by simp[okB]at h
 |_::_,_::_,[],h=>by simp[okB]at h
def ta:∀{s i:fJ} {k:Nat} {n:Int},iz s i=J->s[k]?=O n->∃x,i[k]?=O x/\0<=x/\x<n
 |[],_,_,_,_,h=>by simp at h
 |_::_,[],_,_,h,_=>by simp[iz]at h
 |_::s,x::i,0,n,h,c=>by simp at c;subst c;simp only[iz,jE,zE]at h;exact⟨x,rfl,h.1.1,h.1.2⟩
 |_::s,_::i,k+1,n,h,c=>by simp only[iz,jE]at h;obtain⟨x,e,r⟩:=ta h.2 (by simpa using c);exact⟨x,by simpa using e,r⟩
def mh:∀{s i:fJ} {k:Nat} {n y:Int},iz s i=J->0<=y->y<n->iz (s.set k n) (i.set k y)=J
 |[],[],_,_,_,_,_,_=>by simp[iz]
 |[],_::_,_,_,_,h,_,_=>by simp[iz]at h
 |_::_,[],_,_,_,h,_,_=>by simp[iz]at h
 |_::s,_::i,0,n,y,h,h0,hn=>by simp only[iz,jE]at h;simp[iz,h0,hn,h.2]
 |_::s,_::i,k+1,n,y,h,h0,hn=>by
  simp only[iz,jE]at h;simp only[bV,iz,mh h.2 h0 hn,dX]
  simpa using h.1
def tN:∀{s l h i:fJ},jv s l h->kh l h i=J->iz s i=J
 |[],[],[],[],_,_=>rfl
 |[],[],[],_::_,_,h=>by simp[kh]at h
 |n::s,a::l,b::h,x::i,c,hi=>by simp only[kh,jE,zE]at hi;obtain⟨⟨k1,k2,k3⟩,d⟩:=c;simp only[iz,jE,zE];exact⟨⟨by omega,by omega⟩,tN d hi.2⟩
 |_::_,_::_,_::_,[],_,hi=>by simp[kh]at hi
 |[],_::_,_,_,h,_=>by simp[jv]at h
 |[],[],_::_,_,h,_=>by simp[jv]at h
 |_::_,[],_,_,h,_=>by simp[jv]at h
 |_::_,_::_,[],_,h,_=>by simp[jv]at h
def lE(a f t:Int):Int:=if t<(if a<f then f else a)then t else(if a<f then f else a)
def mJ(a b f t:Int):Int:=if lE a f t<(if t<b then t else b)then(if t<b then t else b)else lE a f t
def S1{a b f t x d:Int}(h0:f<=t):(decide (lE a f t+d<=x) &&decide (x<mJ a b f t+d))=(decide (f<=x - d/\x - d<t) &&(decide (a<=x - d) &&decide (x - d<b))):=by
 have h:(lE a f t+d<=x/\x<mJ a b f t+d)↔((f<=x - d/\x - d<t)/\(a<=x - d/\x - d<b)):=by unfold mJ lE;split <;>split <;>split <;>(try split)<;>omega
 rw[<-bq,<-bq,<-bq];exact decide_eq_decide.2 h
def Ii{a b f t:Int}(h0:0<=a)(c:a<=b)(d:0<=f)(e:f<=t):0<=lE a f t/\lE a f t<=mJ a b f t/\f<=lE a f t/\lE a f t<=t/\mJ a b f t<=t:=by unfold mJ lE;split <;>split <;>split <;>(try split)<;>omega
def M9{a b f t n:Int}(c:a<=b)(d:b<=n)(e:f<=n):mJ a b f t<=n:=by unfold mJ lE;split <;>split <;>split <;>(try split)<;>omega
def wy:∀{t st lo hi i:fJ},iz t i=J->I lo=I t->I hi=I t->I st=I t->(∀x∈lo,0<=x/\x<=65536)->(∀x∈hi,0<=x/\x<=65536)->(∀x∈st,-65536<=x/\x<=65536)->
  kh (tg lo t st) (ti lo hi t st) i=kh lo hi (Nac (·+·) i st)
 |[],[],[],[],[],_,_,_,_,_,_,_=>rfl
 |n::t,m::st,a::lo,b::hi,x::i,d,g,j,k,p1,e,f=>by
  simp only[iz,jE,zE]at d;obtain⟨⟨s,v2⟩,l⟩:=d;have p:=wy (t:=t) (st:=st) (lo:=lo) (hi:=hi) (i:=i) l (by simpa using g) (by simpa using j) (by simpa using k) (λx c=>p1 x<|jG _ c) (λx c=>e x<|jG _ c) (λx c=>f x<|jG _ c);obtain⟨u,v⟩:=p1 a (jM ..);obtain⟨b1,b2⟩:=e b (jM ..);obtain⟨m1,m2⟩:=f m (jM ..);have q:W (a - m)=a - m:=gE y9 y9;have r:W (b - m)=b - m:=gE y9 y9
  have h:(CL a n m<=x/\x<IZ a b n m)↔(a<=x+m/\x+m<b):=by unfold IZ CL;rw[q,r];split <;>split <;>split <;>(try split)<;>(try split)<;>omega
  simp only[tg,ti,aX,kh,p];congr 1;rw[<-bq,<-bq];exact decide_eq_decide.2 h
 |[],_::_,_,_,_,_,_,_,h,_,_,_=>by simp at h
 |[],_,_::_,_,_,_,h,_,_,_,_,_=>by simp at h
 |[],_,_,_::_,_,_,_,h,_,_,_,_=>by simp at h
 |[],_,_,_,_::_,h,_,_,_,_,_,_=>by simp[iz]at h
 |_::_,[],_,_,_,_,_,_,h,_,_,_=>by simp at h
 |_::_,_,[],_,_,_,h,_,_,_,_,_=>by simp at h
 |_::_,_,_,[],_,_,_,h,_,_,_,_=>by simp at h
 |_::_,_,_,_,[],h,_,_,_,_,_,_=>by simp[iz]at h
def F2:∀{s l h:fJ},(∀n∈s,n<=65536)->jv s l h->(∀x∈l,0<=x/\x<=65536)/\(∀x∈h,0<=x/\x<=65536)
 |[],[],[],_,_=>⟨λx c=>by simp at c,λx c=>by simp at c⟩
 |n::s,a::l,b::h,hn,⟨⟨k1,k2,k3⟩,d⟩=>by
  obtain⟨e,f⟩:=F2 (λm V=>hn m<|jG _ V) d;have:=hn n (jM ..);refine⟨λx c=>?_,λx c=>?_⟩
  .rcases ar.1 c with rfl|c
   .omega
   .exact e x c
  .rcases ar.1 c with rfl|c
   .omega
   .exact f x c
 |[],_::_,_,_,h=>by simp[jv]at h
 |[],[],_::_,_,h=>by simp[jv]at h
 |_::_,[],_,_,h=>by simp[jv]at h
 |_::_,_::_,[],_,h=>by simp[jv]at h
def ot(perm i:fJ):fJ:=perm.map λj=>i.getD j.toNat 0
def nI:fJ->fJ->fJ->fJ
 |j::c,a::l,lo=>nI c l (lo.set j.toNat (if lo.getD j.toNat 0<a then a else lo.getD j.toNat 0))
 |_,_,lo=>lo
def nJ:fJ->fJ->fJ->fJ
 |j::c,b::h,hi=>nJ c h (hi.set j.toNat (if b<hi.getD j.toNat 0 then b else hi.getD j.toNat 0))
 |_,_,hi=>hi
def mZ:∀(c l lo:fJ),I (nI c l lo)=I lo
 |[],_,_=>rfl
 |_::_,[],_=>rfl
 |j::c,a::l,lo=>by rw[nI,mZ];simp
def nS:∀(c h hi:fJ),I (nJ c h hi)=I hi
 |[],_,_=>rfl
 |_::_,[],_=>rfl
 |j::c,a::h,hi=>by rw[nJ,nS];simp
def ju{l:fJ}{k:Nat}{a:Int}(h:l[k]?=O a):l.getD k 0=a:=by rw[jB,h];rfl
def ir{l:fJ}{k:Nat}(h:k<I l):l[k]?=O (l.getD k 0):=by simp[jB,h]
def BE:∀(perm l h lo hi i:fJ),I l=I perm->I h=I perm->I lo=I i->I hi=I i->(∀j∈perm,0<=j/\j.toNat<I i)->
  kh (nI perm l lo) (nJ perm h hi) i=(kh lo hi i &&kh l h (ot perm i))
 |[],[],[],lo,hi,i,_,_,_,_,_=>by simp[nI,nJ,ot,kh]
 |j::perm,a::l,b::h,lo,hi,i,m,n,c,d,f=>by
  obtain⟨t,p⟩:=f j (jM ..);have g:=ir p;have q:=ir (l:=lo) (k:=j.toNat) y9;have r:=ir (l:=hi) (k:=j.toNat) y9;rw[nI,nJ,BE perm l h _ _ i (by simpa using m) (by simpa using n) (by simpa using c) (by simpa using d) λj s=>f j<|jG _ s]
  have e:=wQ lo hi i j.toNat (lo.getD j.toNat 0) (hi.getD j.toNat 0) (i.getD j.toNat 0) (if lo.getD j.toNat 0<a then a else lo.getD j.toNat 0) (if b<hi.getD j.toNat 0 then b else hi.getD j.toNat 0) (i.getD j.toNat 0) g q r c d (decide (a<=i.getD j.toNat 0) &&decide (i.getD j.toNat 0<b)) (by rw[<-bq,<-bq,<-bq,<-bq];refine decide_eq_decide.2 ?_;split <;>split <;>omega)
  rw[e,ka g];simp only[ot,zV,kh];cases(decide (a<=i.getD j.toNat 0) &&decide (i.getD j.toNat 0<b))<;>simp
 |[],_::_,_,_,_,_,h,_,_,_,_=>by simp at h
 |[],_,_::_,_,_,_,_,h,_,_,_=>by simp at h
 |_::_,[],_,_,_,_,h,_,_,_,_=>by simp at h
 |_::_,_,[],_,_,_,_,h,_,_,_=>by simp at h
def la(r:Nat)(a:Qj):Prop:=a.bx=1\/(a.bx=2\/a.bx=3)/\(I a.bm)=r
structure Inv (P:Qa->Prop) (s:fJ) (l:List Qa):Prop where
 box:∀x∈l,okB s x.box.lo x.box.hi
 acc:∀x∈l,la (I s) x.be
 ss:∀x∈l,P x
 s4:∀i,iz s i=J->l.countP (ij i)=1
 HV:jw l=J
structure E2 (P:Qa->Prop) (s:fJ) (l:List Qa):Prop where
 box:∀x∈l,Wb s x.box.lo x.box.hi
 acc:∀x∈l,la (I s) x.be
 ss:∀x∈l,gA x=J->P x
 s4:∀i,iz s i=J->l.countP (ij i)=1
def HM{c:Type}[DecidableEq c]:∀{l m:List c},l.Nodup->(∀x∈l,x∈m)->I l<=I m
 |[],_,_,_=>zQ _
 |a::l,m,hn,d=>by
  obtain⟨j,k⟩:=eQ.1 hn;have f:=d a (jM ..);have n:=HM (m:=m.erase a) k λx g=>(fk (λe=>j (by rw[<-e];exact g))).2<|d x<|jG _ g
  rw[eH f]at n;have:=List.length_pos_of_mem f;simp only[zH];omega
section
variable{P Q:Qa->Prop}{s s':fJ}{l L:List Qa}
theorem Inv.v7(h:Inv P s l):l.Pairwise λa b=>a.box.lo≠b.box.lo:=tI h.box λi hi=>by have:=h.s4 i hi;omega
theorem Inv.len(h:Inv P s l)(h0:∀n∈s,0<=n):(I l:Int)<=fQ s:=by
 rw[<-kK h0];have hn:(l.map λx=>x.box.lo).Nodup:=List.pairwise_map.2 h.v7
 have:=HM hn (m:=iF s) λi hi=>by obtain⟨x,c,rfl⟩:=aq.1 hi;exact yH.2 (xw<|h.box x c).1
 simp only[jZ]at this;omega
theorem Inv.wk(h:Inv P s l):∀x∈l,jv s x.box.lo x.box.hi:=λx c=>wX<|h.box x c
theorem Inv.mono(h:Inv P s l)(d:∀x∈l,P x->Q x):Inv Q s l:=⟨h.box,h.acc,λx c=>d x c<|h.ss x c,h.s4,h.HV⟩
theorem E2.rr(h:E2 P s L)(hc:fY s=0)(j:I L<=100000):ZI L=O (iY<|L.filter gA)/\Inv P s (iY<|L.filter gA):=by
 obtain⟨l,k,m⟩:=fT hc
 have d:∀x∈L.filter gA,okB s x.box.lo x.box.hi:=λx c=>by obtain⟨k1,k2⟩:=bp.1 c;exact(h.box x k1).2.2 k2
 have e:∀i,iz s i=J->(L.filter gA).countP (ij i)=1:=λi hi=>by rw[sN];exact h.s4 i hi
 have g:=tI d λi hi=>by have:=e i hi;omega
 have f:=mT (L.filter gA);refine⟨Av k y9 j h.box g,⟨λx c=>d x<|f.mem_iff.1 c,λx c=>h.acc x (bp.1<|f.mem_iff.1 c).1,λx c=>?_,λi hi=>(f.countP_eq _).trans<|e i hi,nr g⟩⟩;obtain⟨k1,k2⟩:=bp.1 (f.mem_iff.1 c);exact h.ss x k1 k2
end
def jq{c:Type}{p:List c}{x:c}(h:I p<=100000):W ((I p:Int)+1)=(I (p++[x]):Int):=by rw[gE y9 y9];simp
def yX{i j:fJ}{f:Qa->List Qa}:∀{l:List Qa},(∀x∈l,(f x).countP (ij i)=if ij j x then 1 else 0)->(l.flatMap f).countP (ij i)=l.countP (ij j)
 |[],_=>rfl
 |x::l,h=>by rw[aI,dQ,h x<|jM ..,yX λy c=>h y<|jG _ c,bN];omega
def uf{i j:fJ}{f:Qa->Qa}{l:List Qa}(h:∀x∈l,ij i (f x)=ij j x):(l.map f).countP (ij i)=l.countP (ij j):=by rw[dD];exact List.countP_congr λx c=>by simp[h x c]
def nt(a:Qj)(n:Int)(st:fJ):Qj:=if a.bx=1 then a else if a.bx=3 then⟨a.bx,a.bc,a.ek,st,W<|a.ed+n,a.dk,a.ep⟩else⟨a.bx,a.bc,W<|a.ek+n,st,a.ed,a.dk,a.ep⟩
def mw(a:Qj)(k:Nat)(n:Int):Qj:=nt a (W<|n*a.bm.getD k 0) a.bm
def tu(a:Qj)(k:Nat)(n:Int):Qj:=nt a (W<|W (n - 1)*a.bm.getD k 0) (a.bm.set k<|W<|0 - a.bm.getD k 0)
def DH(a:Qj)(n:Int)(st:fJ):(nt a n st).bx=a.bx:=by unfold nt;split <;>(try split)<;>rfl
def L1{r:Nat}{a:Qj}{n:Int}{st:fJ}(h:la r a)(c:I st=I a.bm):la r (nt a n st):=by
 rcases h with h|⟨e,d⟩
 .left;rw[DH];exact h
 .right;refine⟨by rw[DH];exact e,?_⟩;unfold nt;rw[ae y9];split
  .exact c.trans d
  .exact c.trans d
def rq{r:Nat}{a:Qj}{k:Nat}{n:Int}(h:la r a):la r (mw a k n):=L1 h rfl
def Sh{r:Nat}{a:Qj}{k:Nat}{n:Int}(h:la r a):la r (tu a k n):=L1 h yB
def kV{l:fJ}(h:I l<=600):Qy l=O l:=gn yA y9
def gP{l:fJ}{k:Nat}(h:k<I l):l.getD k 0=l[k]:=by simp[jB,h]
def K2{r:Nat}{a:Qj}{k:Nat}(n:Int)(h:la r a)(f:k<r)(g:r<=600):Jg (a,(k:Int),n)=O (mw a k n):=by
 obtain⟨d,j,ba,st,l,sp,md⟩:=a;rcases h with h|⟨c,e⟩
 .simp only at h;subst h;simp only[Jg,Ji,ak,Qf,mw,nt]
 .simp only at c e;have g1:¬d=1:=by omega
  have hi:idx st (k:Int)=O (st.getD k 0):=by rw[gP y9];exact ky y9
  simp only[Jg,Ji,g1,ai,XR,kV (show I st<=600 by omega),Qf,mw,nt];rcases c with rfl|rfl
  .simp only[show¬(2:Int)=3 by decide,ai,Qf,XH,YB,hi,Yi]
  .simp only[ak,Qf,XH,YB,hi,Yi]
def Ti{r:Nat}{a:Qj}{k:Nat}(n:Int)(h:la r a)(j:k<r)(l:r<=600):T6 (a,(k:Int),n)=O (tu a k n):=by
 obtain⟨f,m,ba,st,p,sp,md⟩:=a;rcases h with h|⟨c,g⟩
 .simp only at h;subst h;simp only[T6,Jj,ak,Qf,tu,nt]
 .simp only at c g;have g1:¬f=1:=by omega
  have hi:idx st (k:Int)=O (st.getD k 0):=by rw[gP y9];exact ky y9
  have d:iM st (k:Int) (W<|0 - st.getD k 0)=O (st.set k<|W<|0 - st.getD k 0):=iV y9;have e:QN (I (st.set k<|W<|0 - st.getD k 0)=I st)=O ():=fX yB;simp only[T6,Jj,g1,ai,XR,kV (show I st<=600 by omega),Qf,tu,nt];rcases c with rfl|rfl
  .simp only[show¬(2:Int)=3 by decide,ai,Qf,X0,YQ,YC,hi,d,Yh,e]
  .simp only[ak,Qf,X0,YQ,YC,hi,d,Yh,e]
def l9(k:Nat)(n:Int)(x:Qa):Qa:=⟨⟨x.box.lo.set k<|n - x.box.hi.getD k 0,x.box.hi.set k<|n - x.box.lo.getD k 0⟩,tu x.be k n⟩
def mU{l:fJ}{k:Nat}{a:Int}(h:l[k]?=O a):idx l (k:Int)=O a:=kH h
def lG{l:fJ}{k:Nat}{a:Int}(h:l[k]?=O a):k<I l:=(af.1 h).1
def Pk{lo hi:fJ}{k:Nat}{n a b:Int}(c:lo[k]?=O a)(d:hi[k]?=O b)(h0:0<=a)(z:a<=b)(A:b<=n)(B:n<=65536)(hl:I lo<=600)(e:I hi<=600)(c1 c2 f:Int)(j:fJ)(l m p q r s:Int)(t:fJ)(u v w:Int)(g:Nat):
  JS (lo,hi,c1,c2,f,j,l,m,p,(k:Int),n,q,r,s,t,u,v,w,g)=O (lo.set k<|n - b,hi.set k<|n - a,I lo,I hi,lo.set k<|n - b,hi.set k<|n - a):=by
 have x:W (n - b)=n - b:=gE y9 y9;have y:W (n - a)=n - a:=gE y9 y9;simp only[JS,kV hl,kV e,Qf,mU c,mU d,Jq,x,y,iV<|lG c,iV<|lG d,fX zU]
def N6{s:fJ}{k:Nat}{n:Int}(c:s[k]?=O n)(hn:n<=65536)(g:I s<=600):∀(l p out:List Qa),I p+I l<=50000->I out<=I p->(∀x∈l,jv s x.box.lo x.box.hi/\la (I s) x.be)->
  Z2 (p++l,(k:Int),n,out,(I p:Int))=O (out++l.map (l9 k n))
 |[],p,out,h,q,hw=>by rw[Z2];simp only[Q1,ai,aH];simp only[jV]
 |x::l,p,out,h,q,hw=>by
  rw[Z2];obtain⟨j,r⟩:=hw x (jM ..);obtain⟨l1,l2⟩:=jb j;obtain⟨a,b,d,e,t,k1,k2⟩:=qU j c;have f:=N6 c hn g l (p++[x]) (out++[l9 k n x]) (by simp at h |-;omega) yA (λy u=>hw y<|jG _ u);rw[<-Qs]at f;have v:I p<=100000:=by simp at h;omega
  have m:app 120 out [l9 k n x]=O (out++[l9 k n x]):=gn (by simp at h |-;omega) y9;simp only[l9,ju d,ju e]at m f;simp only[QX,ak,Qv,Qf,Ti n r (lG c) g,Pk d e t k1 k2 hn (show I x.box.lo<=600 by omega) (show I x.box.hi<=600 by omega),m,jq (x:=x) v,f,zV,l9,ju d,ju e,ay,aR]
def HE{s i:fJ}{k:Nat}{n y:Int}{x:Qa}(c:jv s x.box.lo x.box.hi)(f:s[k]?=O n)(hi:i[k]?=O y)(hl:I s=I i):ij i (l9 k n x)=ij (i.set k<|n - 1 - y) x:=by obtain⟨l1,l2⟩:=jb c;obtain⟨a,b,d,e,g,k1,k2⟩:=qU c f;unfold ij l9;simp only[ju d,ju e];rw[wQ _ _ i k a b y (n - b) (n - a) (n - 1 - y) hi d e y9 y9 J ?_,bg];rw[bg,<-bq,<-bq];exact decide_eq_decide.2 y9
def il(k:Nat)(f t d:Int)(x:Qa):Qa:=⟨⟨x.box.lo.set k<|lE (x.box.lo.getD k 0) f t+d,x.box.hi.set k<|mJ (x.box.lo.getD k 0) (x.box.hi.getD k 0) f t+d⟩,mw x.be k<|W<|0 - d⟩
def Bv{s:fJ}{k:Nat}{n f t d:Int}{x:Qa}(g:s[k]?=O n)(hn:n<=65536)(p:I s<=600)(j:jv s x.box.lo x.box.hi)(q:la (I s) x.be)(h0:0<=f)(r:f<=t)(y:t<=65536)(z:-65536<=d)(A:d<=65536):JG (x,(k:Int),f,t,d)=O (il k f t d x):=by
 obtain⟨l1,l2⟩:=jb j;obtain⟨a,b,c,e,u,k1,k2⟩:=qU j g;obtain⟨q1,q2,q3,q4,q5⟩:=Ii u k1 h0 r;have v:W (lE a f t+d)=lE a f t+d:=gE y9 y9;have w:W (mJ a b f t+d)=mJ a b f t+d:=gE y9 y9;have l:iM x.box.lo (k:Int) (W<|lE a f t+d)=O (x.box.lo.set k<|lE a f t+d):=by rw[v];exact iV<|lG c
 have m:iM x.box.hi (k:Int) (W<|mJ a b f t+d)=O (x.box.hi.set k<|mJ a b f t+d):=by rw[w];exact iV<|lG e
 unfold mJ lE at m;unfold lE at l;simp only[JG,K2 (W<|0 - d) q (lG g) p,Qf,V2,kV (show I x.box.lo<=600 by omega),kV (show I x.box.hi<=600 by omega),mU c,mU e,JU];rw[l,Qf,m,Qf];rw[fX zU,Qf,fX zU,Qf,Qf];simp only[il,ju c,ju e,lE,mJ]
def oZ{s i:fJ}{k:Nat}{n f t d y:Int}{x:Qa}(c:jv s x.box.lo x.box.hi)(j:s[k]?=O n)(l:f<=t)(hi:i[k]?=O y)(hl:I s=I i):ij i (il k f t d x)=(decide (f<=y - d/\y - d<t) &&ij (i.set k<|y - d) x):=by obtain⟨l1,l2⟩:=jb c;obtain⟨a,b,e,g,m,k1,k2⟩:=qU c j;unfold ij il;simp only[ju e,ju g];exact wQ _ _ i k a b y _ _ (y - d) hi e g y9 y9 _<|S1 l
def BR{s:fJ}{k:Nat}{n f t d m:Int}{x:Qa}(e:jv s x.box.lo x.box.hi)(g:s[k]?=O n)(h0:0<=f)(j:f<=t)(r:0<=f+d)(c:t+d<=m\/(f<=n/\n+d<=m)):jv (s.set k m) (il k f t d x).box.lo (il k f t d x).box.hi:=by
 obtain⟨a,b,l,p,q,k1,k2⟩:=qU e g;obtain⟨q1,q2,q3,q4,q5⟩:=Ii q k1 h0 j;unfold il;simp only[ju l,ju p];refine Fg e y9 y9 ?_;rcases c with c|⟨c,u⟩
 .omega
 .have:=M9 (a:=a) (b:=b) (f:=f) (t:=t) (n:=n) k1 k2 c;omega
def mI(k:Nat)(m n:Int)(x:Qa):List Qa:=[il k m n (0 - m) x,il k 0 m (n - m) x]
def MX{s:fJ}{k:Nat}{m n:Int}(c:s[k]?=O n)(hn:n<=65536)(d:I s<=600)(h0:0<=m)(V:m<=n):∀(l p out:List Qa),I p+I l<=50000->I out<=2*I p->(∀x∈l,jv s x.box.lo x.box.hi/\la (I s) x.be)->
  YH (p++l,(k:Int),m,n,out,(I p:Int))=O (out++l.flatMap (mI k m n))
 |[],p,out,h,j,hw=>by rw[YH];simp only[Q1,ai,dw];simp only[jV]
 |x::l,p,out,h,j,hw=>by
  rw[YH];obtain⟨e,f⟩:=hw x (jM ..);have g:=MX c hn d h0 V l (p++[x]) (out++mI k m n x) (by simp at h |-;omega) (by simp[mI];omega) (λy q=>hw y<|jG _ q);rw[<-Qs]at g;have r:I p<=100000:=by simp at h;omega
  have t:W (0 - m)=0 - m:=gE y9 y9;have u:W (n - m)=n - m:=gE y9 y9;have v:app 120 out [il k m n (0 - m) x,il k 0 m (n - m) x]=O (out++mI k m n x):=gn (by simp at h |-;omega) y9;simp only[QX,ak,Qv,Qf,t,u,Bv c hn d e f h0 V hn (show -65536<=0 - m by omega) (show 0 - m<=65536 by omega),Bv c hn d e f (aG 0) h0 (show m<=65536 by omega) (show -65536<=n - m by omega) (show n - m<=65536 by omega),v,jq (x:=x) r,g,aI,ay]
section
variable{P Q:Qa->Prop}{s:fJ}{l:List Qa}{k:Nat}{n:Int}
theorem Inv.pb(h:Inv P s l)(hc:fY s=0)(c:fQ s<=20000):I l<=20000:=by
 have:=h.len λn hn=>((fT hc).2.2 n hn).1
 omega
theorem BC(h:Inv P s l)(d:s[k]?=O n)(f:∀x∈l,okB s x.box.lo x.box.hi->la (I s) x.be->P x->Q (l9 k n x)):
  E2 Q s (l.map<|l9 k n):=by
 refine⟨λy e=>?_,λy e=>?_,λy e _=>?_,λi hi=>?_⟩
 .obtain⟨x,c,rfl⟩:=aq.1 e;obtain⟨a,b,g,j,q,k1,k2⟩:=qU (h.wk x c) d;have:=Fg (k:=k) (a:=n - b) (b:=n - a) (m:=n) (h.wk x c) y9 y9 y9;rw[ka d]at this;simp only[l9,ju g,ju j];exact vj this
 .obtain⟨x,c,rfl⟩:=aq.1 e;exact Sh<|h.acc x c
 .obtain⟨x,c,rfl⟩:=aq.1 e;exact f x c (h.box x c) (h.acc x c)<|h.ss x c
 .obtain⟨y,p,r,t⟩:=ta hi d;rw[uf λx c=>HE (h.wk x c) d p<|iv hi];have:=mh (k:=k) (n:=n) (y:=n - 1 - y) hi y9 y9;rw[ka d]at this;exact h.s4 _ this
theorem Pz(h:Inv P s l)(hc:fY s=0)(f:fQ s<=20000)(c:s[k]?=O n)(g:∀x∈l,okB s x.box.lo x.box.hi->la (I s) x.be->P x->Q (l9 k n x)):
  Ul (l,(k:Int),n)=O (iY<|(l.map<|l9 k n).filter gA)/\Inv Q s (iY<|(l.map<|l9 k n).filter gA):=by
 obtain⟨q,r,j⟩:=fT hc;have m:=h.pb hc f;have hn:=j n (jF c);have e:=N6 c hn.2 y9 l [] [] (by simpa using by omega) yB (λx d=>⟨h.wk x d,h.acc x d⟩);have e':Z2 (l,(k:Int),n,[],0)=O (l.map<|l9 k n):=e;have p:=BC (Q:=Q) h c g;obtain⟨q1,q2⟩:=p.rr hc yA;refine⟨?_,q2⟩;unfold Ul;simp only[e',Qf,q1]
theorem Bw{m:Int}(h:Inv P s l)(p:s[k]?=O n)(h0:0<=m)(V:m<=n)(z:∀x∈l,okB s x.box.lo x.box.hi->la (I s) x.be->P x->∀y∈mI k m n x,gA y=J->Q y):
  E2 Q s (l.flatMap<|mI k m n):=by
 refine⟨λy e=>?_,λy e=>?_,λy e A=>?_,λi hi=>?_⟩
 .obtain⟨x,g,e⟩:=bJ.1 e;have q:=h.wk x g;simp only[mI,jU,bT,or_false]at e;have r:=ka p;rcases e with rfl|rfl
  .have:=BR (m:=n) (t:=n) (f:=m) (d:=0 - m) q p h0 V y9 (.inl y9);rw[r]at this;exact vj this
  .have:=BR (m:=n) (t:=m) (f:=0) (d:=n - m) q p (aG 0) h0 y9 (.inl y9);rw[r]at this;exact vj this
 .obtain⟨x,g,e⟩:=bJ.1 e;simp only[mI,jU,bT,or_false]at e;rcases e with rfl|rfl<;>exact rq<|h.acc x g
 .obtain⟨x,g,e⟩:=bJ.1 e;exact z x g (h.box x g) (h.acc x g) (h.ss x g) y e A
 .obtain⟨y,w,B,C⟩:=ta hi p;have hl:=iv hi;have r:=ka p;by_cases c:y<n - m
  .rw[yX (j:=i.set k (y+m)) λx g=>?_]
   .have:=mh (k:=k) (n:=n) (y:=y+m) hi y9 y9;rw[r]at this;exact h.s4 _ this
   .have q:=h.wk x g;have u:=oZ (f:=m) (t:=n) (d:=0 - m) q p V w hl;have v:=oZ (f:=0) (t:=m) (d:=n - m) q p h0 w hl;rw[decide_eq_true (show m<=y - (0 - m)/\y - (0 - m)<n by omega),bg,show y - (0 - m)=y+m by omega]at u;rw[y3 (show¬(0<=y - (n - m)/\y - (n - m)<m) by omega),cm]at v;simp only[mI,bN,eS,u,v,j6,ai,zZ]
  .rw[yX (j:=i.set k (y - (n - m))) λx g=>?_]
   .have:=mh (k:=k) (n:=n) (y:=y - (n - m)) hi y9 y9;rw[r]at this;exact h.s4 _ this
   .have q:=h.wk x g;have u:=oZ (f:=m) (t:=n) (d:=0 - m) q p V w hl;have v:=oZ (f:=0) (t:=m) (d:=n - m) q p h0 w hl;rw[y3 (show¬(m<=y - (0 - m)/\y - (0 - m)<n) by omega),cm]at u;rw[decide_eq_true (show 0<=y - (n - m)/\y - (n - m)<m by omega),bg]at v;simp only[mI,bN,eS,u,v,j6,ai,zZ,zY]
theorem PM{m:Int}(h:Inv P s l)(hc:fY s=0)(g:fQ s<=20000)(d:s[k]?=O n)(h0:0<=m)(V:m<=n)(j:∀x∈l,okB s x.box.lo x.box.hi->la (I s) x.be->P x->∀y∈mI k m n x,gA y=J->Q y):
  Uc (l,(k:Int),m,n)=O (iY<|(l.flatMap<|mI k m n).filter gA)/\Inv Q s (iY<|(l.flatMap<|mI k m n).filter gA):=by
 obtain⟨u,v,p⟩:=fT hc;have q:=h.pb hc g;have hn:=p n (jF d);have e:=MX d hn.2 y9 h0 V l [] [] (by simpa using by omega) yB (λx f=>⟨h.wk x f,h.acc x f⟩);have e':YH (l,(k:Int),m,n,[],0)=O (l.flatMap<|mI k m n):=e
 have c:∀l:List Qa,I (l.flatMap<|mI k m n)=2*I l:=λl=>by
  induction l with
  |nil=>rfl
  |cons a l r=>rw[aI,jW,r];simp[mI];omega
 have t:=Bw (Q:=Q) h d h0 V j;obtain⟨q1,q2⟩:=t.rr hc (by rw[c];omega);refine⟨?_,q2⟩;unfold Uc;simp only[e',Qf,q1]
end
def M6{c:Type}{p s:List c}{x y:c}:iM (p++x::s) (I p:Int) y=O (p++y::s):=by simp[iM]
def Nj{s:fJ}{k:Nat}{m n:Int}(c:s[k]?=O m)(V:m<=65536)(h0:0<=n)(hn:n<=65536)(d:I s<=600)(p0:List Qa):∀(l p:List Qa) (g:Nat) (out:List Qa),I p+I l<=50000->I out<=I p+30000->(∀x∈l,jv s x.box.lo x.box.hi/\la (I s) x.be)->
  ∃g',ZP (p++l,(k:Int),n,p0,g,out,(I p:Int))=O (g',out++l.map (il k 0 65536 n))
 |[],p,g,out,h,f,hw=>by rw[ZP];simp only[Q1,ai,aH];exact⟨g,by simp only[jV]⟩
 |x::l,p,g,out,h,f,hw=>by
  rw[ZP];obtain⟨j,q⟩:=hw x (jM ..);obtain⟨g',e⟩:=Nj c V h0 hn d p0 l (p++[x]) (g+1) (out++[il k 0 65536 n x]) (by simp at h |-;omega) yA (λy r=>hw y<|jG _ r);rw[<-Qs]at e;have t:I p<=100000:=by simp at h;omega
  have u:app 120 out [il k 0 65536 n x]=O (out++[il k 0 65536 n x]):=gn (by simp at h |-;omega) y9;refine⟨g',?_⟩;simp only[QX,ak,Qv,Qf,Bv c V d j q (aG 0) (show(0:Int)<=65536 by decide) (aG 65536) (show -65536<=n by omega) hn,u,jq (x:=x) t,e,zV,ay,aR]
def LB{s:fJ}{k:Nat}{m:Int}(g:s[k]?=O m)(V:m<=65536)(j:I s<=600)(p0 c:List Qa)(d:Nat)(e:List Qa)(n:I p0<=I c)(f:I p0<=50000):∀(l p:List Qa),I p+I l=I p0->(∀x∈l,jv s x.box.lo x.box.hi/\la (I s) x.be)->
  ZQ (p0,(k:Int),c,d,p++(l++e),(I p:Int))=O (p++(l.map (il k 0 65536 0)++e))
 |[],p,h,hw=>by
  rw[ZQ]
  have:¬((I p:Int)<(I p0:Int)):=by simp at h;omega
  simp only[this,ai];rfl
 |x::l,p,h,hw=>by
  rw[ZQ];obtain⟨q,r⟩:=hw x (jM ..);have hl:I p<I p0:=by simp at h;omega
  have t:=LB g V j p0 c d e n f l (p++[il k 0 65536 0 x]) (by simp at h |-;omega) (λy u=>hw y<|jG _ u);have g1:((I p:Int)<(I p0:Int)):=by omega
  have v:QN (0<=(I p:Int)/\(I p:Int).toNat<I p0)=O ():=fX ⟨by omega,by omega⟩;have w:QN (0<=(I p:Int)/\(I p:Int).toNat<I c)=O ():=fX ⟨by omega,by omega⟩;have z:W ((I p:Int)+1)=(I (p++[il k 0 65536 0 x]):Int):=jq y9;rw[aN];simp only[g1,ak,v,Qf,Qv,Bv g V j q r (aG 0) (show(0:Int)<=65536 by decide) (aG 65536) (show(-65536:Int)<=0 by decide) (show(0:Int)<=65536 by decide),w,M6,z];rw[Qs,t];simp
section
variable{P1 P2 Q:Qa->Prop}{s:fJ}{l1 l2:List Qa}{k:Nat}{n1 n2:Int}
theorem Cw(p:Inv P1 (s.set k n1) l1)(q:Inv P2 (s.set k n2) l2)(hc:fY s=0)(B:fY (s.set k n1)=0)(C:fY (s.set k n2)=0)(v:s[k]?=O (n1+n2))(D:∀x∈l1,okB (s.set k n1) x.box.lo x.box.hi->la (I s) x.be->P1 x->Q (il k 0 65536 0 x))(E:∀x∈l2,okB (s.set k n2) x.box.lo x.box.hi->la (I s) x.be->P2 x->Q (il k 0 65536 n1 x)):
  E2 Q s (l1.map (il k 0 65536 0)++l2.map (il k 0 65536 n1)):=by
 obtain⟨c1,c2,H⟩:=fT hc;have w:k<I s:=lG v;have j:(s.set k n1)[k]?=O n1:=by simp[w]
 have l:(s.set k n2)[k]?=O n2:=by simp[w]
 have b1:=(fT B).2.2 n1 (jF j);have b2:=(fT C).2.2 n2 (jF l);have S:=H _ (jF v);have A:∀m:Int,(s.set k n1).set k m=s.set k m:=λm=>by simp
 have r:∀m:Int,(s.set k n2).set k m=s.set k m:=λm=>by simp
 refine⟨λy g=>?_,λy g=>?_,λy g _=>?_,λi hi=>?_⟩
 .rcases aU.1 g with g|g
  .obtain⟨x,e,rfl⟩:=aq.1 g;have:=BR (m:=n1+n2) (t:=65536) (f:=0) (d:=0) (p.wk x e) j (aG 0) yD yD (.inr ⟨b1.1,by omega⟩);rw[A,ka v]at this;exact vj this
  .obtain⟨x,e,rfl⟩:=aq.1 g;have:=BR (m:=n1+n2) (t:=65536) (f:=0) (d:=n1) (q.wk x e) l (aG 0) yD y9 (.inr ⟨b2.1,by omega⟩);rw[r,ka v]at this;exact vj this
 .rcases aU.1 g with g|g
  .obtain⟨x,e,rfl⟩:=aq.1 g;have:=p.acc x e;rw[zU]at this;exact rq this
  .obtain⟨x,e,rfl⟩:=aq.1 g;have:=q.acc x e;rw[zU]at this;exact rq this
 .rcases aU.1 g with g|g
  .obtain⟨x,e,rfl⟩:=aq.1 g;have:=p.acc x e;rw[zU]at this;exact D x e (p.box x e) this<|p.ss x e
  .obtain⟨x,e,rfl⟩:=aq.1 g;have:=q.acc x e;rw[zU]at this;exact E x e (q.box x e) this<|q.ss x e
 .obtain⟨y,u,K,T⟩:=ta hi v;have hl:=iv hi;rw[dQ]
  have L:(l1.map<|il k 0 65536 0).countP (ij i)=l1.countP (ij i):=uf λx e=>by rw[oZ (p.wk x e) j yD u (by simpa using hl),Int.sub_zero,ka u,decide_eq_true (show 0<=y/\y<65536 by omega),bg]
  rw[L];by_cases c:y<n1
  .have F:=mh (k:=k) (n:=n1) (y:=y) hi K c;rw[ka u]at F;rw[p.s4 i F]
   have:(l2.map<|il k 0 65536 n1).countP (ij i)=0:=by rw[cJ];intro z M;obtain⟨x,e,rfl⟩:=aq.1 M;rw[oZ (q.wk x e) l yD u (by simpa using hl),y3 (show¬(0<=y - n1/\y - n1<65536) by omega),cm];simp
   rw[this]
  .have N:l1.countP (ij i)=0:=by rw[cJ];intro x e P;have:=tN (p.wk x e) P;obtain⟨z,G,W,X⟩:=ta this j;rw[u]at G;simp only[j9]at G;omega
   have v2:=mh (k:=k) (n:=n2) (y:=y - n1) hi y9 y9
   have R:(l2.map<|il k 0 65536 n1).countP (ij i)=l2.countP (ij<|i.set k<|y - n1):=uf λx e=>by rw[oZ (q.wk x e) l yD u (by simpa using hl),decide_eq_true (show 0<=y - n1/\y - n1<65536 by omega),bg]
   rw[N,R,q.s4 _ v2]
theorem OE(l:Inv P1 (s.set k n1) l1)(n:Inv P2 (s.set k n2) l2)(hc:fY s=0)(H:fQ s<=20000)(c:fY (s.set k n1)=0)(d:fY (s.set k n2)=0)(p:fQ (s.set k n1)<=20000)(q:fQ (s.set k n2)<=20000)(r:s[k]?=O (n1+n2))(t:∀x∈l1,okB (s.set k n1) x.box.lo x.box.hi->la (I s) x.be->P1 x->Q (il k 0 65536 0 x))(u:∀x∈l2,okB (s.set k n2) x.box.lo x.box.hi->la (I s) x.be->P2 x->Q (il k 0 65536 n1 x)):
  UM (l1,l2,(k:Int),n1)=O (iY<|(l1.map (il k 0 65536 0)++l2.map (il k 0 65536 n1)).filter gA)/\Inv Q s (iY<|(l1.map (il k 0 65536 0)++l2.map (il k 0 65536 n1)).filter gA):=by
 obtain⟨c1,c2,C⟩:=fT hc;have z:=l.pb c p;have A:=n.pb d q;have e:k<I s:=lG r;have f:(s.set k n1)[k]?=O n1:=by simp[e]
 have g:(s.set k n2)[k]?=O n2:=by simp[e]
 have b1:=(fT c).2.2 n1 (jF f);have b2:=(fT d).2.2 n2 (jF g);have K:=C _ (jF r);obtain⟨g',D⟩:=Nj g b2.2 b1.1 b1.2 yA l1 l2 [] 1 l1 (by simpa using by omega) (by simpa using by omega) (λx j=>⟨n.wk x j,n.acc x j⟩);have v:ZP (l2,(k:Int),n1,l1,1,l1,0)=O (g',l1++l2.map (il k 0 65536 n1)):=D;have E:=LB f b1.2 yA l1 (l1++l2.map (il k 0 65536 n1)) g' (l2.map<|il k 0 65536 n1) yB y9 l1 [] yB (λx j=>⟨l.wk x j,l.acc x j⟩);have w:ZQ (l1,(k:Int),l1++l2.map (il k 0 65536 n1),g',l1++l2.map (il k 0 65536 n1),0)=O (l1.map (il k 0 65536 0)++l2.map (il k 0 65536 n1)):=E;have F:YT l1=O l1:=gn yA y9;have B:∀m:Int,(s.set k n1).set k m=s.set k m:=λm=>by simp
 have y:∀m:Int,(s.set k n2).set k m=s.set k m:=λm=>by simp
 have G:=Cw (Q:=Q) l n hc c d r t u;obtain⟨q1,q2⟩:=G.rr hc yA;refine⟨?_,q2⟩;unfold UM;simp only[F,Qf,v,w];rw[fX yB,Qf,fX yB,Qf,q1];rfl
end
def qY:fJ->fJ->fJ->fJ
 |j::d,c::st,out=>qY d st (out.set j.toNat<|W<|W (0+out.getD j.toNat 0)+c)
 |_,_,out=>out
def ny:∀(d st out:fJ),I (qY d st out)=I out
 |[],_,_=>rfl
 |_::_,[],_=>rfl
 |j::d,c::st,out=>by rw[qY,ny];simp
def p7(a:Qj)(perm:fJ)(r:Nat):Qj:=if a.bx=1 then a else⟨a.bx,a.bc,a.ek,qY perm a.bm<|Nab r 0,a.ed,a.dk,a.ep⟩
def A7(a:Qj)(p:fJ)(r:Nat):(p7 a p r).bx=a.bx:=by unfold p7;split <;>rfl
def SB{c r:Nat}{a:Qj}{p:fJ}(h:la c a):la r (p7 a p r):=by
 rcases h with h|⟨d,e⟩
 .left;rw[A7];exact h
 .right;refine⟨by rw[A7];exact d,?_⟩;unfold p7;rw[ae y9];simp only[ny,zK]
def Qkp(x y:Int):UZ [x,y]=O (W<|W (0+x)+y):=by
 have c:((0:Int)<(I ([x,y]:fJ):Int)):=by simp
 have l1:((1:Int)<(I ([x,y]:fJ):Int)):=by simp
 have l2:¬((2:Int)<(I ([x,y]:fJ):Int)):=by simp
 have d:idx [x,y] 0=O x:=rfl;have e:idx [x,y] 1=O y:=rfl;have w0:W (0+1)=1:=by decide
 have f:W (1+1)=2:=by decide
 unfold UZ;dsimp only;rw[Y9];simp only[c,ak,d,Qf,w0];rw[Y9];simp only[l1,ak,e,Qf,f];rw[Y9];simp only[l2,ai,Qf]
def sn{l:fJ}{j:Int}(h0:0<=j)(h:j.toNat<I l):idx l j=O (l.getD j.toNat 0):=by obtain⟨k,rfl⟩:∃k:Nat,j=(k:Int):=⟨j.toNat,by omega⟩;simp only[ca]at h |-;rw[ky h,gP h]
def Cm{l:fJ}{j y:Int}(h0:0<=j)(h:j.toNat<I l):iM l j y=O (l.set j.toNat y):=by simp[iM,h0,h]
def HW(k:fJ)(q2 q3 q4:Int)(q5:fJ)(q6:Int)(l m:fJ)(q7 F q1 g:Int)(s t u:Int)(v:fJ)(w y z A:Int):∀(f st e d out:fJ),I st=I f->I d=I e->I e+I f<=600->I out=I k->(∀j∈f,0<=j/\j.toNat<I out)->
  Q2 (e++f,k,d++st,s,t,u,v,w,y,z,A,g,out,(I e:Int))=O (qY f st out)
 |[],[],e,d,out,B,n,p,q,r=>by rw[Q2];simp only[Q1,ai];rfl
 |j::f,c::st,e,d,out,B,n,p,q,r=>by
  rw[Q2];obtain⟨C,D⟩:=r j (jM ..);have G:idx (d++c::st) (I e:Int)=O c:=by rw[<-n];exact Qv
  have E:=HW k q2 q3 q4 q5 q6 l m q7 F q1 g s t u v w y z A f st (e++[j]) (d++[c]) (out.set j.toNat<|W<|W (0+out.getD j.toNat 0)+c) (by simpa using B) (by simp[n]) (by simp at p |-;omega) (by simpa using q) (λi hi=>by simpa using r i (jG _ hi));rw[<-Qs,<-Qs]at E;have H:I e<=100000:=by simp at p;omega
  have K:QN (I out=I k)=O ():=fX q;simp only[QX,ak,Qv,Qf,K,sn C D,G,Qkp,Cm C D,jq (x:=j) H,E];rfl
 |[],_::_,_,_,_,h,_,_,_,_=>by simp at h
 |_::_,[],_,_,_,h,_,_,_,_=>by simp at h
def Cu{r:Nat}(h:r<=600):kj 8 (r:Int) (0:Int)=O (Nab r 0):=by
 have:=yQ (Nab r 0) (by simpa using h)
 simpa using this
def Sn{a:Qj}{perm:fJ}{r:Nat}(h:la (I perm) a)(hl:I perm<=600)(g:r<=600)(p:∀j∈perm,0<=j/\j.toNat<r):JL (a,perm,(r:Int))=O (p7 a perm r):=by
 obtain⟨e,k,ba,st,l,sp,md⟩:=a;rcases h with h|⟨m,n⟩
 .simp only at h;subst h;simp only[JL,Jh,ak,Qf,p7]
 .simp only at m n;have g1:¬e=1:=by omega
  have s:QN (mg (Nab r (0:Int))=mg (Nab r (0:Int)))=O ():=fX rfl
  have d:∀f c:Int,Q2 (perm,Nab r 0,st,e,k,ba,st,l,sp,md,f,c,Nab r 0,0)=O (qY perm st<|Nab r 0):=λf c=>by
   have:=HW (Nab r 0) 0 0 0 [] 0 [] [] 0 0 0 c e k ba st l sp md f perm st [] [] (Nab r 0) n rfl (by simpa using hl) rfl (λj q=>by simpa using p j q)
   simpa using this
  simp only[JL,Jh,g1,ai,Vw,kV (show I st<=600 by omega),Qf,p7];rcases m with rfl|rfl
  .simp only[show¬(2:Int)=3 by decide,ai,Qf,Xh,ZW,Cu g,d,Yg,ny,zK];rw[fX (by simp[ny]),Qf]
  .simp only[ak,Qf,Xh,ZW,Cu g,d,Yg,ny,zK];rw[fX (by simp[ny]),Qf]
def lA(perm s:fJ)(x:Qa):Qa:=⟨⟨nI perm x.box.lo<|Nab (I s) 0,nJ perm x.box.hi s⟩,p7 x.be perm<|I s⟩
def MQ(c d C:fJ)(g p0:List Qa)(k:Int)(m:Nat)(x:Qa):∀(f l h e n p lo hi:fJ),x.box.lo=n++l->x.box.hi=p++h->I l=I f->I h=I f->I n=I e->I p=I e->I e+I f<=600->I lo=I c->I hi=I d->(∀j∈f,0<=j/\j.toNat<I lo/\j.toNat<I hi)->
  ZY (e++f,c,x,d,C,g,p0,k,m,lo,hi,(I e:Int))=O (nI f l lo,nJ f h hi)
 |[],[],[],e,n,p,lo,hi,r,s,D,E,t,u,v,w,y,z=>by rw[ZY];simp only[Q1,ai];rfl
 |j::f,a::l,b::h,e,n,p,lo,hi,r,s,D,E,t,u,v,w,y,z=>by
  rw[ZY];obtain⟨q,F,G⟩:=z j (jM ..);have K:idx x.box.lo (I e:Int)=O a:=by rw[r,<-t];exact Qv
  have L:idx x.box.hi (I e:Int)=O b:=by rw[s,<-u];exact Qv
  have H:=MQ c d C g p0 k m x f l h (e++[j]) (n++[a]) (p++[b]) (lo.set j.toNat (if lo.getD j.toNat 0<a then a else lo.getD j.toNat 0)) (hi.set j.toNat (if b<hi.getD j.toNat 0 then b else hi.getD j.toNat 0)) (by rw[r,Qs]) (by rw[s,Qs]) (by simpa using D) (by simpa using E) (by simp[t]) (by simp[u]) (by simp at v |-;omega) (by simpa using w) (by simpa using y) (λi hi=>by simpa using z i (jG _ hi));rw[<-Qs]at H;have M:I e<=100000:=by simp at v;omega
  have A:QN (I lo=I c)=O ():=fX w;have B:QN (I hi=I d)=O ():=fX y;simp only[QX,ak,Qv,Qf,A,B,sn q F,sn q G,K,L,Cm q F,Cm q G,jq (x:=j) M,H];rfl
 |[],_::_,_,_,_,_,_,_,_,_,h,_,_,_,_,_,_,_=>by simp at h
 |[],_,_::_,_,_,_,_,_,_,_,_,h,_,_,_,_,_,_=>by simp at h
 |_::_,[],_,_,_,_,_,_,_,_,h,_,_,_,_,_,_,_=>by simp at h
 |_::_,_,[],_,_,_,_,_,_,_,_,h,_,_,_,_,_,_=>by simp at h
def Sz(s:fJ)(h:I s<=600)(a b:fJ)(c d e:Int)(f:fJ)(g i j:Int)(m:Nat):∃q,J4 (s,a,b,c,d,e,f,g,i,j,m)=O (q,Nab (I s) 0,s):=by refine⟨mg<|Nab (I s) (0:Int),?_⟩;simp only[J4,yQ s h,Qf,kV h]
def NY{s0 s perm:fJ}(c:I perm=I s0)(hl:I perm<=600)(e:I s<=600)(d:∀j∈perm,0<=j/\j.toNat<I s):∀(l p out:List Qa),I p+I l<=50000->I out<=I p->(∀x∈l,jv s0 x.box.lo x.box.hi/\la (I s0) x.be)->
  ZH (p++l,s,perm,out,(I p:Int))=O (out++l.map (lA perm s))
 |[],p,out,h,v,hw=>by rw[ZH];simp only[Q1,ai,aH];simp only[jV]
 |x::l,p,out,h,v,hw=>by
  rw[ZH];obtain⟨w,z⟩:=hw x (jM ..);obtain⟨l1,l2⟩:=jb w;have f:=NY c hl e d l (p++[x]) (out++[lA perm s x]) (by simp at h |-;omega) yA (λy A=>hw y<|jG _ A);rw[<-Qs]at f;have B:I p<=100000:=by simp at h;omega
  obtain⟨q,eq⟩:=Sz s e x.box.lo x.box.hi x.be.bx x.be.bc x.be.ek x.be.bm x.be.ed x.be.dk x.be.ep (I out);have t:=MQ (Nab (I s) 0) s s out (p++x::l) (I p:Int) q x perm x.box.lo x.box.hi [] [] [] (Nab (I s) 0) s rfl rfl y9 y9 rfl rfl (by simpa using hl) rfl rfl (λj g=>⟨(d j g).1,by simpa using(d j g).2,(d j g).2⟩);simp only[jQ,jL,jJ]at t;have u:app 120 out [lA perm s x]=O (out++[lA perm s x]):=gn (by simp at h |-;omega) y9;have k:QN (I (nI perm x.box.lo<|Nab (I s) 0)=I (Nab (I s) (0:Int)))=O ():=fX (mZ _ _ _);have m:QN (I (nJ perm x.box.hi s)=I s)=O ():=fX (nS _ _ _)
  have n:=Sn (a:=x.be) (perm:=perm) (r:=I s) (by rw[c];exact z) hl e d;unfold lA at u f;simp only[QX,ak,Qv,Qf,eq,t,n,k,m,u,jq (x:=x) B,f,zV,ay,aR];rfl
def EK:∀(c l lo:fJ) (k:Nat),(∀j∈c,0<=j/\j.toNat<I lo)->lo.getD k 0<=(nI c l lo).getD k 0
 |[],_,_,_,_=>aG _
 |_::_,[],_,_,_=>aG _
 |j::c,a::l,lo,k,h=>by
  refine fD ?_ (EK c l _ k λi hi=>by simpa using h i (jG _ hi));obtain⟨f,d⟩:=h j (jM ..);by_cases e:j.toNat=k
  .subst e;simp only[jB,zF,ak,d,aE];split <;>omega
  .simp only[jB,zF,e,ai,aG]
def EP:∀(c l hi:fJ) (k:Nat),(∀j∈c,0<=j/\j.toNat<I hi)->(nJ c l hi).getD k 0<=hi.getD k 0
 |[],_,_,_,_=>aG _
 |_::_,[],_,_,_=>aG _
 |j::c,a::l,hi,k,h=>by
  refine fD (EP c l _ k λi hi=>by simpa using h i (jG _ hi)) ?_;obtain⟨f,d⟩:=h j (jM ..);by_cases e:j.toNat=k
  .subst e;simp only[jB,zF,ak,d,aE];split <;>omega
  .simp only[jB,zF,e,ai,aG]
def Rv:∀{s l h:fJ},I l=I s->I h=I s->gm l h=J->(∀k,k<I s->0<=l.getD k 0/\h.getD k 0<=s.getD k 0)->okB s l h
 |[],[],[],_,_,_,_=>trivial
 |n::s,a::l,b::h,f,g,c,e=>by simp only[gm,jE,zE]at c;have h0:=e 0 yB;simp at h0;exact⟨⟨h0.1,c.1,h0.2⟩,Rv (by simpa using f) (by simpa using g) c.2 λk d=>by simpa using e (k+1) (by simpa using d)⟩
 |[],_::_,_,h,_,_,_=>by simp at h
 |[],[],_::_,_,h,_,_=>by simp at h
 |_::_,[],_,h,_,_,_=>by simp at h
 |_::_,_::_,[],_,h,_,_=>by simp at h
def xJ(r k:Nat):(Nab r (0:Int)).getD k 0=0:=by simp only[jB,zN];split <;>rfl
section
variable{P Q:Qa->Prop}{s0 s perm:fJ}{l:List Qa}
theorem BZ(h:Inv P s0 l)(m:I perm=I s0)(g:∀j∈perm,0<=j/\j.toNat<I s)(q:∀k,k<I s0->s.getD (perm.getD k 0).toNat 0<=s0.getD k 0)(r:∀x∈l,okB s0 x.box.lo x.box.hi->la (I s0) x.be->P x->gA (lA perm s x)=J->Q (lA perm s x)):
  E2 Q s (l.map<|lA perm s):=by
 refine⟨λy d=>?_,λy d=>?_,λy d n=>?_,λi hi=>?_⟩
 .obtain⟨x,c,rfl⟩:=aq.1 d;refine⟨by simp[lA,mZ],by simp[lA,nS],λn=>Rv (by simp[lA,mZ]) (by simp[lA,nS]) n λk p=>⟨?_,EP _ _ _ _ g⟩⟩;have:=EK perm x.box.lo (Nab (I s) 0) k (λj f=>by simpa using g j f);rw[xJ]at this;exact this
 .obtain⟨x,c,rfl⟩:=aq.1 d;exact SB<|h.acc x c
 .obtain⟨x,c,rfl⟩:=aq.1 d;exact r x c (h.box x c) (h.acc x c) (h.ss x c) n
 .have hl:=iv hi;rw[uf (j:=ot perm i) λx c=>?_]
  .refine h.s4 _ (uK (by simp[ot,m]) λk p=>?_);have f:=g (perm.getD k 0) (by rw[gP y9];exact zD _);have t:=lC hi (perm.getD k 0).toNat f.2
   have e:(ot perm i).getD k 0=i.getD (perm.getD k 0).toNat 0:=by rw[gP (l:=ot perm i) (by simp[ot];omega),gP (l:=perm) (k:=k) y9];simp[ot]
   rw[e];have:=q k p;omega
  .obtain⟨l1,l2⟩:=jb (h.wk x c);unfold ij lA;rw[BE perm x.box.lo x.box.hi _ s i y9 y9 (by simpa using hl) hl (λj f=>by have:=g j f;omega),rZ hi,bg]
theorem PA(h:Inv P s0 l)(c:fY s0=0)(f:fQ s0<=20000)(hc:fY s=0)(d:I perm=I s0)(m:∀j∈perm,0<=j/\j.toNat<I s)(p:∀k,k<I s0->s.getD (perm.getD k 0).toNat 0<=s0.getD k 0)(q:∀x∈l,okB s0 x.box.lo x.box.hi->la (I s0) x.be->P x->gA (lA perm s x)=J->Q (lA perm s x)):
  J6 (l,perm,s)=O (iY<|(l.map<|lA perm s).filter gA)/\Inv Q s (iY<|(l.map<|lA perm s).filter gA):=by
 obtain⟨t,u,v⟩:=fT hc;obtain⟨w,y,z⟩:=fT c;have r:=h.pb c f;have e:=NY d y9 y9 m l [] [] (by simpa using by omega) yB (λx n=>⟨h.wk x n,h.acc x n⟩);have e':ZH (l,s,perm,[],0)=O (l.map<|lA perm s):=e;have g:=BZ (Q:=Q) h d m p q;obtain⟨q1,q2⟩:=g.rr hc yA;refine⟨?_,q2⟩;unfold J6;simp only[e',Qf,q1]
end
def lj(a:Qj):Nat->fJ->Qj
 |_,[]=>a
 |k,n::st=>lj (mw a k n) (k+1) st
def Ik{r:Nat}:∀(st:fJ) (a:Qj) (k:Nat),la r a->la r (lj a k st)
 |[],_,_,h=>h
 |n::st,a,k,h=>by rw[lj];exact Ik st _ _<|rq h
def mL(s st:fJ)(x:Qa):Qa:=⟨⟨tg x.box.lo s st,ti x.box.lo x.box.hi s st⟩,lj x.be 0 st⟩
def RD(p1 j:fJ)(c p0:List Qa)(d:Int)(f:Qa){r:Nat}(k:r<=600):∀(st p:fJ) (a:Qj),la r a->I p+I st<=r->
  Xc (p++st,p1,j,c,p0,d,f,a.bx,a.bc,a.ek,a.bm,a.ed,a.dk,a.ep,(I p:Int))=O ((lj a (I p) st).bx,(lj a (I p) st).bc,(lj a (I p) st).ek,(lj a (I p) st).bm,(lj a (I p) st).ed,(lj a (I p) st).dk,(lj a (I p) st).ep)
 |[],p,a,hw,h=>by rw[Xc];simp only[Q1,ai];rfl
 |n::st,p,a,hw,h=>by
  rw[Xc];have g:I p<r:=by simp at h;omega
  have l:=RD p1 j c p0 d f k st (p++[n]) (mw a (I p) n) (rq hw) (by simp at h |-;omega);rw[<-Qs]at l;have e:Jg (⟨a.bx,a.bc,a.ek,a.bm,a.ed,a.dk,a.ep⟩,(I p:Int),n)=O (mw a (I p) n):=K2 n hw g k;simp only[QX,ak,Qv,Qf,e,jq (x:=n) (show I p<=100000 by omega),l];rw[show(p++[n]).length=I p+1 by simp];rfl
def Rn{s0 s st:fJ}(f:I s<=600)(h0:I s0=I s)(hst:I st=I s)(p1:fJ):∀(l p out:List Qa),I p+I l<=50000->I out<=I p->(∀x∈l,jv s0 x.box.lo x.box.hi/\la (I s0) x.be)->
  YI (p++l,st,p1,s,out,(I p:Int))=O (out++l.map (mL s st))
 |[],p,out,h,g,hw=>by rw[YI];simp only[Q1,ai,aH];simp only[jV]
 |x::l,p,out,h,g,hw=>by
  rw[YI];obtain⟨j,k⟩:=hw x (jM ..);obtain⟨l1,l2⟩:=jb j;have c:=Rn f h0 hst p1 l (p++[x]) (out++[mL s st x]) (by simp at h |-;omega) yA (λy m=>hw y<|jG _ m);rw[<-Qs]at c;have n:I p<=100000:=by simp at h;omega
  have d:=RD p1 s out (p++x::l) (I p:Int) x (r:=I s0) y9 st [] x.be k yA;simp only[jQ,jL,jJ]at d;have q:=If (lo:=x.box.lo) (hi:=x.box.hi) (t:=s) (st:=st) y9 y9 y9 y9;have e:app 120 out [mL s st x]=O (out++[mL s st x]):=gn (by simp at h |-;omega) y9;unfold mL at e c;simp only[QX,ak,Qv,Qf,d,q,jq (x:=x) n];refine(bQ (·>>=_) e).trans ?_;rw[Qf,c];simp[mL]
def On{i st:fJ}(h:I i=I st):I (Nac (·+·) i st)=I i:=by simp[h]
def MP(c:Qo):∀(l p:List Qo) (out:List Qa),I p+I l<=50000->I out+I l<=90000->Xd (p++l,c,out,(I p:Int))=O (out++l.map ll)
 |[],p,out,h,d=>by rw[Xd];simp only[Q1,ai];simp only[aH,jV]
 |b::l,p,out,h,d=>by
  rw[Xd];have g:I p<=100000:=by simp at h;omega
  have e:=MP c l (p++[b]) (out++[ll b]) (by simp at h |-;omega) (by simp at d |-;omega);rw[<-Qs]at e;have f:app 120 out [ll b]=O (out++[ll b]):=gn (by simp at h |-;omega) y9;unfold ll lN at f;simp only[QX,ak,Qv,Qf,f,jq (x:=b) g];refine e.trans ?_;simp
section
variable{P Q:Qa->Prop}{s0 s st:fJ}{l:List Qa}
def yr(s0 s st:fJ)(l:List Qa):List Qa:=l.map (mL s st)++(oN s (tg (Nab (I s) 0) s st)<|ti (Nab (I s) 0) s0 s st).map ll
theorem Ck(h:Inv P s0 l)(u:fY s0=0)(hc:fY s=0)(h0:I s0=I s)(hst:I st=I s)(k:∀x∈st,-65536<=x/\x<=65536)(A:∀x∈l,okB s0 x.box.lo x.box.hi->la (I s0) x.be->P x->gA (mL s st x)=J->Q (mL s st x))(B:∀b,okB s b.lo b.hi->(∀i,iz s i=J->kh b.lo b.hi i=J->iz s0 (Nac (·+·) i st)=U)->Q (ll b)):
  E2 Q s (yr s0 s st l):=by
 obtain⟨D,E,C⟩:=fT hc;obtain⟨F,G,v⟩:=fT u;have j:∀n∈s,0<=n:=λn hn=>(C n hn).1
 have w:∀n∈s0,0<=n:=λn hn=>(v n hn).1
 have m:=pk (lo:=Nab (I s) 0) (hi:=s0) (t:=s) (st:=st) (by simp[hst]) hst.symm y9 j
 have q:∀i,iz s i=J->kh (tg (Nab (I s) 0) s st) (ti (Nab (I s) 0) s0 s st) i=iz s0 (Nac (·+·) i st):=λi hi=>by
  have hl:=iv hi;rw[wy hi yB y9 hst (λx c=>by have:=(dR.1 c).2;omega) (λx c=>v x c) k];have H:=On (i:=i) (st:=st) y9;cases f:iz s0 (Nac (·+·) i st)with
  |true=>have:=rZ f;rw[h0]at this;exact this
  |false=>
   cases p:kh (Nab (I s) 0) s0 (Nac (·+·) i st)with
   |false=>rfl
   |true=>
    rw[<-h0]at p;have:=tN (lk w) p;rw[f]at this;cases this
 have g:∀i,iz s i=J->((oN s (tg (Nab (I s) 0) s st)<|ti (Nab (I s) 0) s0 s st).map ll).countP (ij i)=if iz s0 (Nac (·+·) i st)=J then 0 else 1:=λi hi=>by
  have:=Ge lN m hi;rw[bN]at this;have e:ij i (⟨⟨tg (Nab (I s) 0) s st,ti (Nab (I s) 0) s0 s st⟩,lN⟩:Qa)=iz s0 (Nac (·+·) i st):=q i hi;rw[e]at this;split at this<;>rename_i f
  .rw[aj f];omega
  .rw[ae f];omega
 have r:∀i,iz s i=J->∀x∈l,ij i (mL s st x)=ij (Nac (·+·) i st) x:=λi hi x c=>by obtain⟨l1,l2⟩:=jb (h.wk x c);obtain⟨b1,b2⟩:=F2 (λn hn=>(v n hn).2) (h.wk x c);exact wy hi y9 y9 hst b1 b2 k
 refine⟨λy d=>?_,λy d=>?_,λy d z=>?_,λi hi=>?_⟩
 .rcases aU.1 d with d|d
  .obtain⟨x,c,rfl⟩:=aq.1 d;obtain⟨l1,l2⟩:=jb (h.wk x c);exact vj<|pk y9 y9 y9 j
  .obtain⟨b,k,rfl⟩:=aq.1 d;exact vj<|BV j m b k
 .rcases aU.1 d with d|d
  .obtain⟨x,c,rfl⟩:=aq.1 d;have:=h.acc x c;rw[h0]at this;exact Ik _ _ _ this
  .obtain⟨b,k,rfl⟩:=aq.1 d;exact .inl rfl
 .rcases aU.1 d with d|d
  .obtain⟨x,c,rfl⟩:=aq.1 d;exact A x c (h.box x c) (h.acc x c) (h.ss x c) z
  .obtain⟨b,k,rfl⟩:=aq.1 d;refine B b (vG (BV j m b k) z) λi hi p=>?_
   have:=g i hi;cases f:iz s0 (Nac (·+·) i st)with
   |false=>rfl
   |true=>
    rw[aj f,cJ]at this;exact absurd p<|this (ll b)<|aq.2 ⟨b,k,rfl⟩
 .unfold yr;rw[dQ,g i hi,uf<|r i hi];by_cases f:iz s0 (Nac (·+·) i st)=J
  .rw[aj f,h.s4 _ f]
  .rw[ae f]
   have:l.countP (ij<|Nac (·+·) i st)=0:=by rw[cJ];intro x c p;exact f<|tN (h.wk x c) p
   rw[this]
theorem P7(h:Inv P s0 l)(c:fY s0=0)(f:fQ s0<=20000)(hc:fY s=0)(h0:I s0=I s)(hst:I st=I s)(q:∀x∈st,-65536<=x/\x<=65536)(r:∀x∈l,okB s0 x.box.lo x.box.hi->la (I s0) x.be->P x->gA (mL s st x)=J->Q (mL s st x))(u:∀b,okB s b.lo b.hi->(∀i,iz s i=J->kh b.lo b.hi i=J->iz s0 (Nac (·+·) i st)=U)->Q (ll b)):
  UY (l,s0,s,st)=O (iY<|(yr s0 s st l).filter gA)/\Inv Q s (iY<|(yr s0 s st l).filter gA):=by
 obtain⟨F,w,y⟩:=fT hc;obtain⟨G,H,z⟩:=fT c;have A:=h.pb c f;have d:∀n∈s,0<=n:=λn hn=>(y n hn).1
 have B:∀n∈s0,0<=n:=λn hn=>(z n hn).1
 have e:=Rn (s0:=s0) (s:=s) (st:=st) y9 h0 hst s0 l [] [] (by simpa using by omega) yB (λx m=>⟨h.wk x m,h.acc x m⟩);have e':YI (l,st,s0,s,[],0)=O (l.map<|mL s st):=e;have C:=If (lo:=Nab (I s) 0) (hi:=s0) (t:=s) (st:=st) (by simp[hst]) hst.symm y9 y9;have j:=pk (lo:=Nab (I s) 0) (hi:=s0) (t:=s) (st:=st) (by simp[hst]) hst.symm y9 d;obtain⟨g,D⟩:=tO s y9;have E:=Ls w y9 d j;have K:=D4 s (tg (Nab (I s) 0) s st) (ti (Nab (I s) 0) s0 s st);have p:=MP ⟨tg (Nab (I s) 0) s st,ti (Nab (I s) 0) s0 s st⟩ (oN s (tg (Nab (I s) 0) s st)<|ti (Nab (I s) 0) s0 s st) [] (l.map<|mL s st) yA yA
 simp only[jQ,jL,jJ]at p;have k:=Ck (Q:=Q) h c hc h0 hst q r u;obtain⟨q1,q2⟩:=k.rr hc (by unfold yr;simp;omega);refine⟨?_,q2⟩;unfold UY;simp only[e',Qf,yQ s (show I s<=600 by omega),C,D,E,p];show(ZI (yr s0 s st l)>>=λv=>O v)=_
 rw[q1,Qf]
end
def mR(c:Qr):Option (List Qa):=ZX (c.bx,c.aa,c.bc,c.cx,c.ch,c.cS,c.eh,c.ea)
def Sp(q0:Int)(q1:fJ)(q2:Int)(q3:fJ)(q4 q5:Int)(q6:fJ):QP ([],q0,q1,q2,q3,q4,q5,q6,[],0)=O []:=by
 rw[QP]
 have:¬((0:Int)<(I ([]:List Qr):Int)):=by simp
 simp only[this,ai]
def R3(q0:Int)(q1:fJ)(q2:Int)(q3:fJ)(q4 q5:Int)(q6:fJ){k:Qr}{l:List Qa}(h:mR k=O l):QP ([k],q0,q1,q2,q3,q4,q5,q6,[],0)=O [l]:=by
 have g0:((0:Int)<(I ([k]:List Qr):Int)):=by simp
 have g1:¬((1:Int)<(I ([k]:List Qr):Int)):=by simp
 have c:idx [k] 0=O k:=rfl;have w0:W (0+1)=1:=by decide
 unfold mR at h;rw[QP];simp only[g0,ak,c,Qf,h,w0];rw[gn yB y9,Qf,QP];simp only[g1,ai,jQ]
def Tg(q0:Int)(q1:fJ)(q2:Int)(q3:fJ)(q4 q5:Int)(q6:fJ){k k2:Qr}{l l2:List Qa}(h:mR k=O l)(c:mR k2=O l2):QP ([k,k2],q0,q1,q2,q3,q4,q5,q6,[],0)=O [l,l2]:=by
 have g0:((0:Int)<(I ([k,k2]:List Qr):Int)):=by simp
 have g1:((1:Int)<(I ([k,k2]:List Qr):Int)):=by simp
 have d:¬((2:Int)<(I ([k,k2]:List Qr):Int)):=by simp
 have e:idx [k,k2] 0=O k:=rfl;have f:idx [k,k2] 1=O k2:=rfl;have w0:W (0+1)=1:=by decide
 have g:W (1+1)=2:=by decide
 unfold mR at h c;rw[QP];simp only[g0,ak,e,Qf,h,w0];rw[gn yB y9,Qf,QP];simp only[g1,ak,f,Qf,c,g];rw[gn yB y9,Qf,QP];simp only[d,ai,jQ,aR]
def sQ:∀c:Qb,(conv c).aa=c.aa
 |⟨_,_,_,_,_,_,_,_⟩=>by rw[conv]
def IU{P:Qa->Prop}{s:fJ}{b:Int}(hc:fY s=0)(d:fQ s≠0->P (lb b s)):Inv P s (if fQ s=0 then[]else[lb b s]):=by
 obtain⟨f,g,e⟩:=fT hc;have hn:∀n∈s,0<=n:=λn hn=>(e n hn).1
 by_cases z:fQ s=0
 .rw[aj z];refine⟨λx c=>by simp at c,λx c=>by simp at c,λx c=>by simp at c,λi hi=>?_,rfl⟩;have:=gu (qj hi);omega
 .rw[ae z];refine⟨λx c=>?_,λx c=>?_,λx c=>?_,λi hi=>?_,rfl⟩
  .simp only[jY]at c;subst c;exact vG (lk hn)<|om<|gW hn z
  .simp only[jY]at c;subst c;exact .inr ⟨.inl rfl,lK s⟩
  .simp only[jY]at c;subst c;exact d z
  .have:ij i (lb b s)=J:=rZ hi
   simp[this]
def wz{s a:fJ}{k:Nat}(hl:I a=I s)(h:∀j,j<I s->j≠k->a.getD j 0=s.getD j 0):s.set k (a.getD k 0)=a:=by
 refine cE (by simp[hl]) λj c d=>?_
 rw[List.getElem_set];split
 .rename_i e;subst e;exact gP d
 .rename_i e;have:=h j (by simpa using c) (λe'=>e e'.symm);rw[gP d,gP (by simpa using c)]at this;exact this.symm
section
variable{bs:List fJ}{m:Int}{G:Qb->Prop}{R:Qb->Qa->Prop}
end
def MH:∀(s p:fJ),I p+I s<=600->QS (p++s,p++s,(I p:Int))=O (.inr ())
 |[],p,h=>by rw[QS];simp only[Q1,ai]
 |x::s,p,h=>by rw[QS];have c:=MH s (p++[x]) (by simp at h |-;omega);rw[<-Qs]at c;simp only[QX,ak,Qv,Qf,ne_eq,not_true,ai,X8 h,c]
def Sy{s:fJ}(h:I s<=600):JK (s,s)=O J:=by have e:=MH s [] (by simpa using h);have e':QS (s,s,0)=O (.inr ()):=e;simp only[JK,Zs,ne_eq,not_true,ai,e',Qf]
def SQ(c:Qr):S7 ⟨c.bx,c.aa,c.bc,c.cx,c.ch,c.cS,c.eh,c.ea⟩=mR c:=by cases c;unfold S7 mR;simp only[JB,Qf];cases ZX _<;>rfl
def kg(c:Qb):fJ:=match c.ea with|[]=>[]|k::_=>k.aa
def gX(c:Qb)(i:fJ):Int×fJ×Bool:=if c.bx=2 then(0,if iz (kg c) (nH i c.cx)=J then nH i c.cx else[],iz (kg c)<|nH i c.cx)else if c.bx=3 then(0,i.set c.ch.toNat<|(kg c).getD c.ch.toNat 0 - 1 - i.getD c.ch.toNat 0,J)else if c.bx=4 then(0,i.set c.ch.toNat<|(i.getD c.ch.toNat 0+c.cS)% (kg c).getD c.ch.toNat 0,J)else if c.bx=5 then(0,pick i c.eh,J)else if c.bx=6 then(if fQ (kg c)=0 then(0,[],U)else(0,jy (kg c)<|iN c.aa i%fQ (kg c),J))else if i.getD c.ch.toNat 0<(kg c).getD c.ch.toNat 0 then(0,i,J)else(1,i.set c.ch.toNat<|i.getD c.ch.toNat 0 - (kg c).getD c.ch.toNat 0,J)
def iB:fJ->fJ->Int
 |a::s,b::t=>a*b+iB s t
 |_,_=>0
def wo(a q:Int):W (a+18446744073709551616*q)=W a:=by simp only[W,IntKind.wrap,IntKind.bits,IntKind.signed];simp
def Pg(a:Int):∃q,W a=a+18446744073709551616*q:=by
 simp only[W,IntKind.wrap,IntKind.bits,IntKind.signed];simp;split
 .exact⟨-(a/18446744073709551616) - 1,by omega⟩
 .exact⟨-(a/18446744073709551616),by omega⟩
def so(a b:Int):W (W a+b)=W (a+b):=by obtain⟨q,e⟩:=Pg a;rw[e,show a+18446744073709551616*q+b=(a+b)+18446744073709551616*q by omega,wo]
def GO(a b:Int):W (a+W b)=W (a+b):=by rw[fE,so,fE]
def xA:∀(s i:fJ) (k:Nat) (c x y:Int),s[k]?=O c->i[k]?=O x->iB s (i.set k y)=iB s i+c*(y - x)
 |[],_,_,_,_,_,h,_=>by simp at h
 |_::_,[],_,_,_,_,_,h=>by simp at h
 |a::s,b::i,0,c,x,y,d,e=>by simp at d e;subst d;subst e;simp only[dS,iB,eX];omega
 |a::s,b::i,k+1,c,x,y,d,e=>by simp only[bV,iB,xA s i k c x y (by simpa using d) (by simpa using e)];omega
def xf:∀(s i:fJ) (k:Nat) (c d x:Int),s[k]?=O c->i[k]?=O x->iB (s.set k d) i=iB s i+(d - c)*x
 |[],_,_,_,_,_,h,_=>by simp at h
 |_::_,[],_,_,_,_,_,h=>by simp at h
 |a::s,b::i,0,c,d,x,e,f=>by simp at e f;subst e;subst f;simp only[dS,iB,eY];omega
 |a::s,b::i,k+1,c,d,x,e,f=>by simp only[bV,iB,xf s i k c d x (by simpa using e) (by simpa using f)];omega
def vV(a:Qj)(i:fJ):Bool×Int×Int:=if a.bx=1 then(J,0,0)else if a.bx=3 then(U,a.bc,W<|a.ek+W (a.dk*(W (a.ed+iB a.bm i)%a.ep)))else(U,a.bc,W<|a.ek+iB a.bm i)
def MB{r:Nat}{a:Qj}{n:Int}{st i j:fJ}(h:la r a)(e:∀b:Int,a.bx≠1->W (W (b+n)+iB st i)=W (b+iB a.bm j)):vV (nt a n st) i=vV a j:=by
 obtain⟨d,f,ba,s,c,sp,md⟩:=a;rcases h with h|⟨h|h,g⟩<;>simp only at h<;>subst h
 .rfl
 .have:=e ba (show¬(2:Int)=1 by decide);simp only[vV,nt,show¬(2:Int)=1 by decide,show¬(2:Int)=3 by decide,ai];rw[this]
 .have:=e c (show¬(3:Int)=1 by decide);simp only[vV,nt,show¬(3:Int)=1 by decide,ai,ak];rw[this]
def MI{r:Nat}{a:Qj}{k:Nat}{n x:Int}{i:fJ}(h:la r a)(d:k<r)(hi:i[k]?=O x):vV (mw a k n) i=vV a (i.set k<|x+n):=
 MB h λb c=>by
  have e:I a.bm=r:=by rcases h with h|h;exact absurd h c;exact h.2
  rw[xA _ i k (a.bm.getD k 0) x _ (ir y9) hi,so,show b+W (n*a.bm.getD k 0)+iB a.bm i=(b+iB a.bm i)+W (n*a.bm.getD k 0) by omega,GO,
   show x+n - x=n by omega,bI n]
  congr 1;omega
def SO{r:Nat}{a:Qj}{k:Nat}{n x:Int}{i:fJ}(h:la r a)(g:k<r)(hi:i[k]?=O x):vV (tu a k n) i=vV a (i.set k<|n - 1 - x):=
 MB h λb d=>by
  have j:I a.bm=r:=by rcases h with h|h;exact absurd h d;exact h.2
  have hc:=ir (l:=a.bm) (k:=k) y9;generalize a.bm.getD k 0=c at *;obtain⟨q,e⟩:=Pg (n - 1);obtain⟨q2,f⟩:=Pg (0 - c);rw[xA _ i k c x _ hc hi,xf _ i k c _ x hc hi,so,show b+W (W (n - 1)*c)+(iB a.bm i+(W (0 - c) - c)*x)=(b+(iB a.bm i+(W (0 - c) - c)*x))+W (W (n - 1)*c) by omega,GO,e,f]
  have:b+(iB a.bm i+(0 - c+18446744073709551616*q2 - c)*x)+(n - 1+18446744073709551616*q)*c=(b+(iB a.bm i+c*(n - 1 - x - x)))+18446744073709551616*(q2*x+q*c):=by simp only[cr,eY,eX,dP,bo,dE,bX,bL,bI x c,bI n c];omega
  rw[this,wo]
def HJ{r:Nat}:∀(st c i:fJ) (a:Qj),la r a->I c+I st=r->I i=I st->vV (lj a (I c) st) (c++i)=vV a (c++Nac (·+·) i st)
 |[],c,[],a,_,_,_=>rfl
 |n::st,c,x::i,a,h,d,f=>by have e:=HJ st (c++[x]) i (mw a (I c) n) (rq h) (by simp at d |-;omega) (by simpa using f);rw[lj];rw[jW,bz,ay,aR]at e;rw[e,ay,aR,MI h (by simp at d;omega) (x:=x) yB];congr 1;simp
 |[],_,_::_,_,_,_,h=>by simp at h
 |_::_,_,[],_,_,_,h=>by simp at h
def yL(i:fJ):∀(d st out:fJ),I st=I d->I out=I i->(∀j∈d,0<=j/\j.toNat<I i)->∃q,iB (qY d st out) i=iB out i+iB st (ot d i)+18446744073709551616*q
 |[],[],out,_,_,_=>⟨0,by simp[qY,ot,iB]⟩
 |j::d,c::st,out,g,l,f=>by obtain⟨r,m⟩:=f j (jM ..);obtain⟨q,e⟩:=yL i d st (out.set j.toNat<|W<|W (0+out.getD j.toNat 0)+c) (by simpa using g) (by simpa using l) (λk n=>f k<|jG _ n);obtain⟨q2,p⟩:=Pg (0+out.getD j.toNat 0+c);rw[qY,e,xf out i j.toNat (out.getD j.toNat 0) _ (i.getD j.toNat 0) (ir y9)<|ir m,so,p];refine⟨q+q2*i.getD j.toNat 0,?_⟩;simp only[ot,zV,iB];generalize i.getD j.toNat 0=x;generalize out.getD j.toNat 0=y;simp only[cr,eY,dP,bo];omega
 |[],_::_,_,h,_,_=>by simp at h
 |_::_,[],_,h,_,_=>by simp at h
def uP:∀(r:Nat) (i:fJ),iB (Nab r 0) i=0
 |0,_=>by simp[iB]
 |r+1,[]=>by simp[aB,iB]
 |r+1,x::i=>by rw[aB,iB,uP r i];omega
def Sg{a:Qj}{perm i:fJ}(h:la (I perm) a)(c:∀j∈perm,0<=j/\j.toNat<I i):vV (p7 a perm<|I i) i=vV a (ot perm i):=by
 obtain⟨g,k,ba,s,d,sp,md⟩:=a;rcases h with h|⟨h|h,f⟩<;>simp only at h<;>subst h
 .rfl
 .obtain⟨q,e⟩:=yL i perm s (Nab (I i) 0) f yB c;rw[uP]at e;simp only[vV,p7,show¬(2:Int)=1 by decide,show¬(2:Int)=3 by decide,ai,e];rw[show ba+(0+iB s (ot perm i)+18446744073709551616*q)=(ba+iB s (ot perm i))+18446744073709551616*q by omega,wo]
 .obtain⟨q,e⟩:=yL i perm s (Nab (I i) 0) f yB c;rw[uP]at e;simp only[vV,p7,show¬(3:Int)=1 by decide,ai,ak,e];rw[show d+(0+iB s (ot perm i)+18446744073709551616*q)=(d+iB s (ot perm i))+18446744073709551616*q by omega,wo]
mutual
def oG:Qb->fJ->Bool×Int×Int
 |⟨k,sh,c,st,d,e,f,ks⟩,i=>if k=1 then(U,c,iN sh i)else if(gX ⟨k,sh,c,st,d,e,f,ks⟩ i).2.2=J then l8 ks (gX ⟨k,sh,c,st,d,e,f,ks⟩ i).1.toNat (gX ⟨k,sh,c,st,d,e,f,ks⟩ i).2.1 else(J,0,0)
def l8:List Qb->Nat->fJ->Bool×Int×Int
 |[],_,_=>(J,0,0)
 |k::_,0,i=>oG k i
 |_::ks,n+1,i=>l8 ks n i
end
def Cs{c:Qb}{i:fJ}(h:c.bx=1):oG c i=(U,c.bc,iN c.aa i):=by cases c;simp only at h;rw[oG,aj h]
def kT{c:Qb}{i:fJ}(h:c.bx≠1):oG c i=if(gX c i).2.2=J then l8 c.ea (gX c i).1.toNat (gX c i).2.1 else(J,0,0):=by cases c;simp only at h;rw[oG,ae h]
def xg:∀{i st:fJ},(∀x∈i,0<=x/\x<=65536)->(∀x∈st,-65536<=x/\x<=65536)->nH i st=Nac (·+·) i st
 |[],_,_,_=>rfl
 |_::_,[],_,_=>rfl
 |x::i,n::st,d,e=>by have a:=d x (jM ..);have b:=e n (jM ..);have f:=xg (i:=i) (st:=st) (λy c=>d y<|jG _ c) (λy c=>e y<|jG _ c);unfold nH at f |-;rw[aX,aX,f,gE y9 y9]
def GX{s i:fJ}(c:∀n∈s,n<=65536)(h:iz s i=J):∀x∈i,0<=x/\x<=65536:=λx d=>by obtain⟨k,e,rfl⟩:=bD d;have hl:=iv h;have:=lC h k y9;have f:=c (s.getD k 0) (by rw[gP y9];exact zD _);rw[gP e]at this;omega
def td(c:Qb)(x:Qa):Prop:=∀i,iz c.aa i=J->ij i x=J->vV x.be i=oG c i
section
variable{bs:List fJ}{m:Int}{G:Qb->Prop}
theorem oO{s i:fJ}{x:Qa}(c:okB s x.box.lo x.box.hi)(h:ij i x=J):iz s i=J:=tN (wX c) h
theorem De:∀{s i:fJ},I s=I i->iB (ig s) i=iN s i
 |[],[],_=>rfl
 |n::s,x::i,h=>by rw[ig,iB,iN,De (by simpa using h),bI]
 |[],_::_,h=>by simp at h
 |_::_,[],h=>by simp at h
theorem KM{c:Qb}(d:c.bx=1)(hc:fY c.aa=0):td c (lb c.bc c.aa):=λi hi _=>by
 obtain⟨c1,c2,e⟩:=fT hc;have:=iy hi;have hw:W (0+iN c.aa i)=iN c.aa i:=by rw[gE y9 y9];omega
 rw[Cs d];simp only[vV,lb,show¬(2:Int)=1 by decide,show¬(2:Int)=3 by decide,ai,De<|iv hi,hw]
theorem OP{c k:Qb}{x:Qa}(q:c.bx=2)(m:c.ea=[k])(hc:fY c.aa=0)(g:fY k.aa=0)(hl:I k.aa=I c.aa)(hst:I c.cx=I c.aa)(d:∀x∈c.cx,-65536<=x/\x<=65536)(j:okB k.aa x.box.lo x.box.hi)(s:la (I k.aa) x.be)(t:td k x):td c (mL c.aa c.cx x):=λi hi l=>by
 obtain⟨c1,c2,u⟩:=fT hc;obtain⟨z,A,v⟩:=fT g;obtain⟨l1,l2⟩:=ki j;obtain⟨b1,b2⟩:=F2 (λn hn=>(v n hn).2) (wX j);have w:=iv hi;have e:ij i (mL c.aa c.cx x)=ij (Nac (·+·) i c.cx) x:=wy hi y9 y9 hst b1 b2 d;rw[e]at l;have p:=oO j l;have y:=xg (GX (λn hn=>(u n hn).2) hi) d;have f:kg c=k.aa:=by unfold kg;rw[m]
 have es:gX c i=(0,Nac (·+·) i c.cx,J):=by unfold gX;rw[aj q,y,f,p];rfl
 rw[kT y9,es];simp only[ak,m,bB,l8];rw[<-t _ p l];exact HJ (r:=I k.aa) c.cx [] i x.be s yA y9
theorem P5{c k:Qb}{b:Qo}(f:c.bx=2)(g:c.ea=[k])(hc:fY c.aa=0)(e:∀x∈c.cx,-65536<=x/\x<=65536)(j:∀i,iz c.aa i=J->kh b.lo b.hi i=J->iz k.aa (Nac (·+·) i c.cx)=U):td c (ll b):=λi hi l=>by
 obtain⟨c1,c2,m⟩:=fT hc;have p:=xg (GX (λn hn=>(m n hn).2) hi) e;have d:kg c=k.aa:=by unfold kg;rw[g]
 have es:(gX c i).2.2=U:=by unfold gX;rw[aj f,p,d];exact j i hi l
 rw[kT y9,es];rfl
theorem Pd{c k:Qb}{x:Qa}(r:c.bx=3)(n:c.ea=[k])(f:k.aa=c.aa)(s:0<=c.ch)(t:c.ch<(I c.aa:Int))(g:okB k.aa x.box.lo x.box.hi)(p:la (I k.aa) x.be)(u:td k x):td c (l9 c.ch.toNat (c.aa.getD c.ch.toNat 0) x):=λi hi j=>by
 have m:=iv hi;rw[f]at g p;have q:=ir (l:=i) (k:=c.ch.toNat) y9;have e:=HE (wX g) (ir (l:=c.aa) (k:=c.ch.toNat) y9) q m;rw[e]at j;have v:=oO g j;have d:kg c=c.aa:=by unfold kg;rw[n];exact f
 have es:gX c i=(0,i.set c.ch.toNat<|c.aa.getD c.ch.toNat 0 - 1 - i.getD c.ch.toNat 0,J):=by unfold gX;rw[ae y9,aj r,d]
 rw[kT y9,es];simp only[ak,n,bB,l8];rw[<-u _ (by rw[f];exact v) j];exact SO p y9 q
theorem wF{s i:fJ}{x:Qa}{k:Nat}{n f t d y:Int}(j:okB s x.box.lo x.box.hi)(l:la (I s) x.be)(g:s[k]?=O n)(c:f<=t)(m:-65536<=d/\d<=65536)(hl:I s=I i)(hi:i[k]?=O y)(e:ij i (il k f t d x)=J):
  (f<=y - d/\y - d<t)/\ij (i.set k<|y - d) x=J/\vV (il k f t d x).be i=vV x.be (i.set k<|y - d):=by
 rw[oZ (wX j) g c hi hl,jE,zE]at e;refine⟨e.1,e.2,?_⟩;have w:W (0 - d)=0 - d:=gE y9 y9;have:=MI (n:=0 - d) l (lG g) hi;rw[show y+(0 - d)=y - d by omega]at this;simp only[il,w];exact this
theorem Ps{c k:Qb}{x y:Qa}(u:c.bx=4)(p:c.ea=[k])(j:k.aa=c.aa)(hc:fY c.aa=0)(v:0<=c.ch)(w:c.ch<(I c.aa:Int))(V:0<=c.cS/\(c.cS=0\/c.cS<c.aa.getD c.ch.toNat 0))(e:okB k.aa x.box.lo x.box.hi)(m:la (I k.aa) x.be)(q:td k x)(r:y∈mI c.ch.toNat c.cS (c.aa.getD c.ch.toNat 0) x):td c y:=λi hi s=>by
 obtain⟨c1,c2,A⟩:=fT hc;have f:=iv hi;rw[j]at e m;have d:=ir (l:=c.aa) (k:=c.ch.toNat) y9;have n:=ir (l:=i) (k:=c.ch.toNat) y9;obtain⟨z,t,C,D⟩:=ta hi d;have B:=A _ (jF d);rw[n]at t;simp only[j9]at t;have g:kg c=c.aa:=by unfold kg;rw[p];exact j
 have es:gX c i=(0,i.set c.ch.toNat<|(i.getD c.ch.toNat 0+c.cS)%c.aa.getD c.ch.toNat 0,J):=by unfold gX;rw[ae y9,ae y9,aj u,g]
 rw[kT y9,es];simp only[ak,p,bB,l8];generalize E:c.aa.getD c.ch.toNat 0=N at *;generalize F:i.getD c.ch.toNat 0=X at *;simp only[mI,jU,bT,or_false]at r;rcases r with rfl|rfl
 .obtain⟨q1,q2,q3⟩:=wF e m d y9 y9 f n s
  have:(X+c.cS)%N=X - (0 - c.cS):=by rw[b9 y9 y9];omega
  rw[q3,this];exact q _ (by rw[j];exact oO e q2) q2
 .obtain⟨q1,q2,q3⟩:=wF e m d y9 y9 f n s
  have:(X+c.cS)%N=X - (N - c.cS):=by rw[show X+c.cS=(X - (N - c.cS))+N by omega,Int.add_emod_right,b9 y9 y9]
  rw[q3,this];exact q _ (by rw[j];exact oO e q2) q2
theorem O2{c k:Qb}{x:Qa}(n:c.bx=5)(p:c.ea=[k])(g:I c.eh=I k.aa)(e:∀j∈c.eh,0<=j/\j.toNat<I c.aa)(m:okB k.aa x.box.lo x.box.hi)(q:la (I k.aa) x.be)(r:td k x):td c (lA c.eh c.aa x):=λi hi f=>by
 have d:=iv hi;obtain⟨l1,l2⟩:=ki m;unfold ij lA at f;rw[BE c.eh x.box.lo x.box.hi _ c.aa i y9 y9 (by simpa using d) d (λj l=>by have:=e j l;omega),rZ hi,bg]at f;have s:=oO (x:=x) m f
 have es:gX c i=(0,ot c.eh i,J):=by unfold gX;rw[ae y9,ae y9,ae y9,aj n];rfl
 rw[kT y9,es];simp only[ak,p,bB,l8];rw[<-r _ s f];have:=Sg (a:=x.be) (perm:=c.eh) (i:=i) (by rw[g];exact q) (λj l=>by have:=e j l;omega);simp only[lA,d];exact this
theorem PL{c k k2:Qb}{x:Qa}(w:c.bx=7)(g:c.ea=[k,k2])(p:fY k.aa=0)(hl:I k.aa=I c.aa)(q:0<=c.ch)(r:c.ch<(I c.aa:Int))(j:okB k.aa x.box.lo x.box.hi)(s:la (I k.aa) x.be)(t:td k x):td c (il c.ch.toNat 0 65536 0 x):=λi hi u=>by
 have v:=iv hi;have d:=ir (l:=k.aa) (k:=c.ch.toNat) y9;have f:=ir (l:=i) (k:=c.ch.toNat) y9;obtain⟨q1,q2,q3⟩:=wF j s d yD yD y9 f u;rw[Int.sub_zero,ka f]at q2 q3;have m:=oO j q2;obtain⟨z,n,y,A⟩:=ta m d;rw[f]at n;simp only[j9]at n;have e:kg c=k.aa:=by unfold kg;rw[g]
 have es:gX c i=(0,i,J):=by unfold gX;rw[ae y9,ae y9,ae y9,ae y9,ae y9,e,aj y9]
 rw[kT y9,es];simp only[ak,g,bB,l8];rw[q3];exact t _ m q2
theorem PU{c k k2:Qb}{x:Qa}(y:c.bx=7)(g:c.ea=[k,k2])(e:fY k.aa=0)(hl:I k2.aa=I c.aa)(m:I k.aa=I c.aa)(n:0<=c.ch)(p:c.ch<(I c.aa:Int))(j:okB k2.aa x.box.lo x.box.hi)(q:la (I k2.aa) x.be)(r:td k2 x):td c (il c.ch.toNat 0 65536 (k.aa.getD c.ch.toNat 0) x):=λi hi s=>by
 have t:=iv hi;have f:=ir (l:=k2.aa) (k:=c.ch.toNat) y9;have u:=ir (l:=i) (k:=c.ch.toNat) y9;have hn:=(fT e).2.2 _ (jF<|ir (l:=k.aa) (k:=c.ch.toNat) y9);obtain⟨q1,q2,q3⟩:=wF j q f yD y9 y9 u s;have v:=oO j q2;have d:kg c=k.aa:=by unfold kg;rw[g]
 have es:gX c i=(1,i.set c.ch.toNat<|i.getD c.ch.toNat 0 - k.aa.getD c.ch.toNat 0,J):=by unfold gX;rw[ae y9,ae y9,ae y9,ae y9,ae y9,d,ae y9]
 have w:Int.toNat 1=1:=rfl;rw[kT y9,es];simp only[ak,g,w,l8];rw[q3];exact r _ v q2
end
inductive Pa (c:Qb):Prop
 |one:c.bx=1->c.ea=[]->Pa c
 |uo (k:Qb):c.bx=2->c.ea=[k]->I k.aa=I c.aa->I c.cx=I c.aa->(∀x∈c.cx,-65536<=x/\x<=65536)->Pa c
 |rev (k:Qb):c.bx=3->c.ea=[k]->k.aa=c.aa->c.ch=(c.ch.toNat:Int)->c.ch.toNat<I c.aa->Pa c
 |vk (k:Qb):c.bx=4->c.ea=[k]->k.aa=c.aa->c.ch=(c.ch.toNat:Int)->c.ch.toNat<I c.aa->0<=c.cS->c.cS<=c.aa.getD c.ch.toNat 0->(c.cS=0\/c.cS<c.aa.getD c.ch.toNat 0)->Pa c
 |x7 (k:Qb):c.bx=5->c.ea=[k]->I c.eh=I k.aa->(∀j∈c.eh,0<=j/\j.toNat<I c.aa)->(∀i,i<I k.aa->c.aa.getD (c.eh.getD i 0).toNat 0<=k.aa.getD i 0)->Pa c
 |nv (k:Qb):c.bx=6->c.ea=[k]->Pa c
 |cat (k k2:Qb):c.bx=7->c.ea=[k,k2]->c.ch=(c.ch.toNat:Int)->c.ch.toNat<I c.aa->I k.aa=I c.aa->I k2.aa=I c.aa->
   c.aa.set c.ch.toNat (k.aa.getD c.ch.toNat 0)=k.aa->c.aa.set c.ch.toNat (k2.aa.getD c.ch.toNat 0)=k2.aa->c.aa[c.ch.toNat]?=O (k.aa.getD c.ch.toNat 0+k2.aa.getD c.ch.toNat 0)->Pa c
def S9{c:Type}:∀{l:List c},(I l:Int)=1->∃k,l=[k]
 |[k],_=>⟨k,rfl⟩
 |[],h=>by simp at h
 |_::_::_,h=>by simp at h;omega
def SL{c:Type}:∀{l:List c},(I l:Int)=2->∃k k2,l=[k,k2]
 |[a,b],_=>⟨a,b,rfl⟩
 |[],h=>by simp at h
 |[_],h=>by simp at h
 |_::_::_::_,h=>by simp at h;omega
def TA{c:Qb}(e:nB c)(q:∀k∈c.ea,fY k.aa=0):Pa c:=by
 obtain⟨c1,c2,x⟩:=fT e.ns
 have one:c.bx≠1->c.bx≠7->∃k,c.ea=[k]:=λn1 n7=>by have:=e.ea;rw[ae n7,ae n1]at this;exact S9 this
 have y:=e.bx;by_cases k1:c.bx=1
 .refine .one k1 ?_;have:=e.ea;rw[ae y9,aj k1]at this;exact aw y9
 by_cases m:c.bx=7
 .obtain⟨k,k2,d⟩:∃k k2,c.ea=[k,k2]:=by have:=e.ea;rw[aj m]at this;exact SL this
  obtain⟨g,f,p,v,l⟩:=e.cat m k k2 [] d;have b1:=(fT<|q k (by rw[d];simp)).2.2;have b2:=(fT<|q k2 (by rw[d];simp)).2.2;have z:c.aa.set c.ch.toNat (k.aa.getD c.ch.toNat 0)=k.aa:=wz f λj r s=>((l j y9).2 y9).2
  have A:c.aa.set c.ch.toNat (k2.aa.getD c.ch.toNat 0)=k2.aa:=wz y9 λj r s=>by have:=(l j y9).2 y9;omega
  have B:=b1 (k.aa.getD c.ch.toNat 0) (by rw[gP y9];exact zD _);have C:=b2 (k2.aa.getD c.ch.toNat 0) (by rw[gP y9];exact zD _);refine .cat k k2 m d y9 y9 f y9 z A ?_;rw[ir y9,(l c.ch.toNat y9).1 y9,gE y9 y9]
 obtain⟨k,d⟩:=one k1 m;have t:=q k (by rw[d];simp);by_cases k2:c.bx=2
 .obtain⟨g,f,p⟩:=e.uo k2;exact .uo k k2 d (p k [] d) g f
 by_cases k3:c.bx=3
 .obtain⟨g,f,p⟩:=e.rev (.inl k3) k [] d;exact .rev k k3 d g y9 y9
 by_cases u:c.bx=4
 .obtain⟨g,f,p⟩:=e.rev (.inr u) k [] d;obtain⟨v,l⟩:=e.vk u;have:=x (c.aa.getD c.ch.toNat 0) (by rw[gP y9];exact zD _);exact .vk k u d g y9 y9 v y9 l
 by_cases w:c.bx=5
 .obtain⟨g,f⟩:=e.x7 w k [] d;have f:=f λn hn=>((fT t).2.2 n hn).1
  refine .x7 k w d g (λj r=>?_) λi hi=>(f i hi).2.2
  obtain⟨i,hi,rfl⟩:=bD r;have:=f i y9;rw[gP hi]at this;omega
 exact .nv k y9 d
def tc(nv:List Qa->fJ->fJ->List Qa)(c:Qb)(d:List (List Qa)):List Qa:=if c.bx=1 then(if fQ c.aa=0 then[]else[lb c.bc c.aa])else if c.bx=2 then iY ((yr (kg c) c.aa c.cx<|d.getD 0 []).filter gA)else if c.bx=3 then iY (((d.getD 0 []).map<|l9 c.ch.toNat<|c.aa.getD c.ch.toNat 0).filter gA)else if c.bx=4 then iY (((d.getD 0 []).flatMap<|mI c.ch.toNat c.cS<|c.aa.getD c.ch.toNat 0).filter gA)else if c.bx=5 then iY (((d.getD 0 []).map<|lA c.eh c.aa).filter gA)else if c.bx=6 then nv (d.getD 0 []) (kg c) c.aa else iY (((d.getD 0 []).map (il c.ch.toNat 0 65536 0)++(d.getD 1 []).map (il c.ch.toNat 0 65536<|(kg c).getD c.ch.toNat 0)).filter gA)
mutual
def qo (nv:List Qa->fJ->fJ->List Qa):Qb->List Qa
 |⟨k,sh,c,st,d,e,f,ks⟩=>tc nv ⟨k,sh,c,st,d,e,f,ks⟩<|mP nv ks
def mP (nv:List Qa->fJ->fJ->List Qa):List Qb->List (List Qa)
 |[]=>[]
 |k::ks=>qo nv k::mP nv ks
end
def Cl(nv:List Qa->fJ->fJ->List Qa)(c:Qb):qo nv c=tc nv c (mP nv c.ea):=by cases c;rw[qo]
def uV{c k:Qb}(d:k∈c.ea):uu k<uu c:=by
 obtain⟨f,g,j,m,n,p,q,ks⟩:=c;rw[uu]
 have:∀{l:List Qb},k∈l->uu k<=uB l:=λ{l}=>by
  induction l with
  |nil=>intro h;simp at h
  |cons a l e=>
   intro h;rw[uB];rcases ar.1 h with rfl|h
   .omega
   .have:=e h;omega
 have:uu k<=uB ks:=this d
 omega
structure Wo (G:Qb->Prop) (R:Qb->Qa->Prop) (nv:List Qa->fJ->fJ->List Qa):Prop where
 whole:∀c,G c->c.bx=1->fQ c.aa≠0->R c (lb c.bc c.aa)
 uo:∀c k,G c->c.bx=2->c.ea=[k]->∀x,okB k.aa x.box.lo x.box.hi->la (I k.aa) x.be->R k x->gA (mL c.aa c.cx x)=J->R c (mL c.aa c.cx x)
 Lx:∀c k,G c->c.bx=2->c.ea=[k]->∀b,okB c.aa b.lo b.hi->(∀i,iz c.aa i=J->kh b.lo b.hi i=J->iz k.aa (Nac (·+·) i c.cx)=U)->R c (ll b)
 rev:∀c k,G c->c.bx=3->c.ea=[k]->∀x,okB k.aa x.box.lo x.box.hi->la (I k.aa) x.be->R k x->R c (l9 c.ch.toNat (c.aa.getD c.ch.toNat 0) x)
 vk:∀c k,G c->c.bx=4->c.ea=[k]->∀x,okB k.aa x.box.lo x.box.hi->la (I k.aa) x.be->R k x->∀y∈mI c.ch.toNat c.cS (c.aa.getD c.ch.toNat 0) x,gA y=J->R c y
 N2:∀c k,G c->c.bx=5->c.ea=[k]->∀x,okB k.aa x.box.lo x.box.hi->la (I k.aa) x.be->R k x->gA (lA c.eh c.aa x)=J->R c (lA c.eh c.aa x)
 nv:∀c k,G c->c.bx=6->c.ea=[k]->∀l,Inv (R k) k.aa l->Inv (R c) c.aa (nv l k.aa c.aa)
 Kp:∀c k k2,G c->c.bx=7->c.ea=[k,k2]->∀x,okB k.aa x.box.lo x.box.hi->la (I k.aa) x.be->R k x->R c (il c.ch.toNat 0 65536 0 x)
 OK:∀c k k2,G c->c.bx=7->c.ea=[k,k2]->∀x,okB k2.aa x.box.lo x.box.hi->la (I k2.aa) x.be->R k2 x->R c (il c.ch.toNat 0 65536 (k.aa.getD c.ch.toNat 0) x)
def E2.inv{P:Qa->Prop}{s:fJ}{L:List Qa}(h:E2 P s L):Inv P s (iY<|L.filter gA):=by
 have d:∀x∈L.filter gA,okB s x.box.lo x.box.hi:=λx c=>by obtain⟨k1,k2⟩:=bp.1 c;exact(h.box x k1).2.2 k2
 have e:∀i,iz s i=J->(L.filter gA).countP (ij i)=1:=λi hi=>by rw[sN];exact h.s4 i hi
 have g:=tI d λi hi=>by have:=e i hi;omega
 have f:=mT (L.filter gA);refine⟨λx c=>d x<|f.mem_iff.1 c,λx c=>h.acc x (bp.1<|f.mem_iff.1 c).1,λx c=>?_,λi hi=>(f.countP_eq _).trans<|e i hi,nr g⟩;obtain⟨k1,k2⟩:=bp.1 (f.mem_iff.1 c);exact h.ss x k1 k2
def rW{c k:Qb}{r:List Qb}(h:c.ea=k::r):kg c=k.aa:=by unfold kg;rw[h]
section
variable{bs:List fJ}{m:Int}{G:Qb->Prop}{R:Qb->Qa->Prop}{nv:List Qa->fJ->fJ->List Qa}
def GK(bs:List fJ)(m:Int)(G:Qb->Prop):Prop:=∀c,G c->nE bs c/\pB m c/\∀k∈c.ea,G k
theorem GK.ns(d:GK bs m G){c:Qb}(h:G c):fY c.aa=0/\fQ c.aa<=m/\(I c.aa)<=6:=by obtain⟨⟨q0,q1,q2,_⟩,_⟩:=ov (d c h).2.1;exact⟨q1,q2,q0⟩
theorem GK.vx(d:GK bs m G){c:Qb}(h:G c):Pa c:=TA (mE (d c h).1).1 λk e=>(d.ns<|(d c h).2.2 k e).1
theorem Nc{c:Qb}{d:List (List Qa)}(h:c.bx=1):tc nv c d=if fQ c.aa=0 then[]else[lb c.bc c.aa]:=aj h
theorem NF{c:Qb}{d:List (List Qa)}(h:c.bx=2):tc nv c d=iY ((yr (kg c) c.aa c.cx<|d.getD 0 []).filter gA):=by rw[tc,ae y9,aj h]
theorem NU{c:Qb}{d:List (List Qa)}(h:c.bx=3):tc nv c d=iY (((d.getD 0 []).map<|l9 c.ch.toNat<|c.aa.getD c.ch.toNat 0).filter gA):=by rw[tc,ae y9,ae y9,aj h]
theorem Mq{c:Qb}{d:List (List Qa)}(h:c.bx=4):tc nv c d=iY (((d.getD 0 []).flatMap<|mI c.ch.toNat c.cS<|c.aa.getD c.ch.toNat 0).filter gA):=by rw[tc,ae y9,ae y9,ae y9,aj h]
theorem L6{c:Qb}{d:List (List Qa)}(h:c.bx=5):tc nv c d=iY (((d.getD 0 []).map<|lA c.eh c.aa).filter gA):=by rw[tc,ae y9,ae y9,ae y9,ae y9,aj h]
theorem M0{c:Qb}{d:List (List Qa)}(h:c.bx=6):tc nv c d=nv (d.getD 0 []) (kg c) c.aa:=by rw[tc,ae y9,ae y9,ae y9,ae y9,ae y9,aj h]
theorem M7{c:Qb}{d:List (List Qa)}(h:c.bx=7):tc nv c d=iY (((d.getD 0 []).map (il c.ch.toNat 0 65536 0)++(d.getD 1 []).map (il c.ch.toNat 0 65536<|(kg c).getD c.ch.toNat 0)).filter gA):=by rw[tc,ae y9,ae y9,ae y9,ae y9,ae y9,ae y9]
theorem wI(S:Wo G R nv)(u:GK bs m G):∀(n:Nat) (c:Qb),uu c<=n->G c->Inv (R c) c.aa (qo nv c)
 |0,c,h,_=>by have:=qx c;omega
 |n+1,c,h,e=>by
  obtain⟨r,_,_⟩:=u.ns e
  have sub:∀k∈c.ea,Inv (R k) k.aa (qo nv k)/\fY k.aa=0:=λk d=>by have:=uV d;exact⟨wI S u n k y9<|(u c e).2.2 k d,(u.ns<|(u c e).2.2 k d).1⟩
  rw[Cl];cases u.vx e with
  |one E d=>rw[Nc E];exact IU r λz=>S.whole c e E z
  |uo k w d j v q=>
   obtain⟨f,t⟩:=sub k (by rw[d];simp);rw[NF w,rW d,d,mP];exact(Ck (Q:=R c) f t r j v q (λx _ g l p y=>S.uo c k e w d x g l p y) (λb g M=>S.Lx c k e w d b g M)).inv
  |rev k F d j v q=>
   obtain⟨f,t⟩:=sub k (by rw[d];simp);rw[NU F,d,mP];rw[j]at f;exact(BC (Q:=R c) f (ir q) (λx _ g l p=>S.rev c k e F d x (by rw[j];exact g) (by rw[j];exact l) p)).inv
  |vk k H d j v q A N X=>
   obtain⟨f,t⟩:=sub k (by rw[d];simp);rw[Mq H,d,mP];rw[j]at f;exact(Bw (Q:=R c) f (ir q) A N (λx _ g l p=>S.vk c k e H d x (by rw[j];exact g) (by rw[j];exact l) p)).inv
  |x7 k K d j v q=>
   obtain⟨f,t⟩:=sub k (by rw[d];simp);rw[L6 K,d,mP];exact(BZ (Q:=R c) f j v q (λx _ g l p y=>S.N2 c k e K d x g l p y)).inv
  |nv k L d=>
   obtain⟨f,t⟩:=sub k (by rw[d];simp);rw[M0 L,rW d,d,mP];exact S.nv c k e L d _ f
  |cat k k2 B d j v q A C D P=>
   obtain⟨f,t⟩:=sub k (by rw[d];simp);obtain⟨T,W⟩:=sub k2 (by rw[d];simp);rw[M7 B,rW d,d,mP,mP]
   exact(Cw (Q:=R c) (s:=c.aa) (k:=c.ch.toNat) (n1:=k.aa.getD c.ch.toNat 0) (n2:=k2.aa.getD c.ch.toNat 0) (P1:=R k) (P2:=R k2) (by rw[C];exact f) (by rw[D];exact T) r (by rw[C];exact t) (by rw[D];exact W) P
    (λx _ g l p=>S.Kp c k k2 e B d x (by rwa [C]at g) (by rw[q];exact l) p) (λx _ g l p=>S.OK c k k2 e B d x (by rwa [D]at g) (by rw[A];exact l) p)).inv
end
def kA(a:Qj):Qt:=⟨a.bx,a.bc,a.ek,a.bm,a.ed,a.dk,a.ep⟩
def gK(x:Qa):Qc:=⟨⟨x.box.lo,x.box.hi⟩,kA x.be⟩
def mD:∀{l:List Qa},jw l=J->l.Pairwise λa b=>iH a.box.lo b.box.lo<0
 |[],_=>.nil
 |[a],_=>by simp
 |a::b::l,h=>by
  simp only[jw,jE,zE]at h;have d:=mD h.2;refine aM.2 ⟨λc hc=>?_,d⟩;rcases ar.1 hc with rfl|hc
  .exact h.1
  .exact nZ h.1<|(aM.1 d).1 c hc
def js(l:List Qa)(x:Qa):List Qa:=if gA x=J then tE x l else l
def lL:∀(L out:List Qa),(L.foldl js out).Perm (L.filter gA++out)
 |[],out=>.refl _
 |x::L,out=>by
  rw[aY];refine(lL L _).trans ?_;unfold js;by_cases h:gA x=J
  .rw[aj h,aO h];refine((nU x out).append_left _).trans ?_;rw[aN];exact List.perm_middle
  .rw[ae h,aP h]
def nG:∀(L out:List Qa),jw out=J->((L.filter gA++out).Pairwise λa b=>a.box.lo≠b.box.lo)->jw (L.foldl js out)=J
 |[],out,h,_=>h
 |x::L,out,h,c=>by
  rw[aY];unfold js;by_cases d:gA x=J
  .rw[aj d];rw[aO d,aN]at c;obtain⟨e,f⟩:=aM.1 c;refine nG L _ (sT x out h λy g=>(e y<|cQ _ g).symm) ?_
   have:(x::(L.filter gA++out)).Perm (L.filter gA++tE x out):=by refine List.perm_middle.symm.trans ?_;exact(nU x out).symm.append_left _
   exact(this.pairwise_iff (λh=>h.symm)).1<|aM.2 ⟨e,f⟩
  .rw[ae d];rw[aP d]at c;exact nG L out h c
def rh{L:List Qa}(c:(L.filter gA).Pairwise λa b=>a.box.lo≠b.box.lo):L.foldl js []=iY (L.filter gA):=by
 have d:=lL L [];rw[jV]at d;have e:=nG L [] rfl (by rw[jV];exact c);refine ry (λa b=>iH a.box.lo b.box.lo<0) (λa=>by simp[nO]) (d.trans (mT _).symm) (mD e) ?_
 exact(mD<|nr c).imp λh f=>by have:=nZ h f;rw[nO]at this;exact absurd this yD
def E2.v7{P:Qa->Prop}{s:fJ}{L:List Qa}(h:E2 P s L):(L.filter gA).Pairwise λa b=>a.box.lo≠b.box.lo:=by
 refine tI (s:=s) (λx c=>?_) λi hi=>?_
 .obtain⟨k1,k2⟩:=bp.1 c;exact(h.box x k1).2.2 k2
 .rw[sN,h.s4 i hi];exact j7 _
def QiY:∀(lo hi c d:fJ),I c=I d->I lo=I hi->I c+I lo<=600->XC (⟨c++lo,d++hi⟩,(I c:Int))=O (if gm lo hi=J then .inr ()else .inl ())
 |[],[],c,d,f,j,h=>by rw[XC];simp only[Q1,ai];rfl
 |l::lo,h::hi,c,d,f,j,hl=>by
  rw[XC];have k:idx (d++h::hi) (I c:Int)=O h:=by rw[f];exact Qv
  have e:=QiY lo hi (c++[l]) (d++[h]) (by simp[f]) (by simpa using j) (by simp at hl |-;omega);rw[<-Qs,<-Qs]at e;simp only[QX,ak,k,Qv,Qf,X8 hl,e,gm];by_cases g:l<h
  .rw[ae (show¬l>=h by omega)];simp only[g,decide_true,bg]
  .rw[aj (show l>=h by omega)];simp only[g,y5,cm];rfl
 |[],_::_,_,_,_,h,_=>by cases h
 |_::_,[],_,_,_,h,_=>by cases h
def El{lo hi:fJ}(h:I lo=I hi)(hl:I lo<=600):Jb ⟨lo,hi⟩=O (!gm lo hi):=by have e:=QiY lo hi [] [] rfl h (by simpa using hl);simp only[jQ,jL,jJ]at e;simp only[Jb,e,Qf];cases gm lo hi<;>rfl
def D3:∀(a b p q:fJ),I a=I b->I p=I q->I p+I a<=600->XX (p++a,q++b,(I p:Int))=O (if a=b then .inr ()else .inl (decide<|iH a b<0))
 |[],[],p,q,_,_,_=>by rw[XX];simp only[Q1,ai,Qf,j6];rfl
 |x::a,y::b,p,q,j,d,hl=>by
  rw[XX];have l2:((I p:Int)<(I (q++y::b):Int)):=by rw[d];exact QX
  have k:idx (q++y::b) (I p:Int)=O y:=by rw[d];exact Qv
  simp only[QX,ak,l2,decide_true,Qf,Qv,k];by_cases g:x=y
  .have f:=D3 a b (p++[x]) (q++[y]) (by simpa using j) (by simp[d]) (by simp at hl |-;omega);rw[<-Qs,<-Qs]at f;subst g;simp only[ne_eq,not_true,ai];rw[X8 hl];refine f.trans ?_;simp[iH]
  .have:¬(x::a=y::b):=λe=>g (List.cons.inj e).1
   rw[ae this,aj g];simp only[iH];by_cases c:x<y
   .simp[c]
   .have:y<x:=by omega
    simp[c,this]
 |[],_::_,_,_,h,_,_=>by simp at h
 |_::_,[],_,_,h,_,_=>by simp at h
def ET{a b:fJ}(c:I a=I b)(hl:I a<=600):J9 (a,b)=O (decide<|iH a b<0):=by
 have e:=D3 a b [] [] c rfl yA;simp only[jQ,jL,jJ]at e;simp only[J9,e,Qf];by_cases g:a=b
 .subst g;simp[nO]
 .simp only[g,ai]
def sA(x z:Qa):Bool:=decide (iH z.box.lo x.box.lo<0)
def Gw(x:Qa):∀l:List Qa,tE x l=l.takeWhile (sA x)++x::l.dropWhile (sA x)
 |[]=>rfl
 |y::l=>by
  rw[tE];by_cases h:iH y.box.lo x.box.lo<0
  .rw[aj h,Gw x l,dc (by simpa[sA]using h),dY (by simpa[sA]using h)];rfl
  .rw[ae h,dd (by simpa[sA]using h),dZ (by simpa[sA]using h)];rfl
def L4{n:Nat}(x:Qa)(f:I x.box.lo=n)(hn:n<=600):∀(l p:List Qa),(∀z∈l,I z.box.lo=n)->I p+I l<=90000->Jn ((p++l).map gK,gK x,(I p:Int))=O (((I p+I (l.takeWhile<|sA x):Nat):Int))
 |[],p,c,h=>by
  rw[Jn]
  have:¬((I p:Int)<(I ((p++[]).map gK):Int)):=by simp
  simp only[this,ai,Qf,j6];rfl
 |z::l,p,c,h=>by
  rw[Jn];have j:((I p:Int)<(I ((p++z::l).map gK):Int)):=by simp;omega
  have k:idx ((p++z::l).map gK) (I p:Int)=O (gK z):=kH yB;have r:=c z (jM ..);have e:=ET (a:=(gK z).box.lo) (b:=(gK x).box.lo) (by show I z.box.lo=I x.box.lo;omega) (by show I z.box.lo<=600;omega);have d:=L4 x f hn l (p++[z]) (λy m=>c y<|jG _ m) (by simp at h |-;omega);rw[<-Qs]at d;have q:W ((I p:Int)+1)=(I (p++[z]):Int):=jq (by simp at h;omega);simp only[j,ak,k,Qf,e];by_cases g:iH z.box.lo x.box.lo<0
  .have g':iH (gK z).box.lo (gK x).box.lo<0:=g;rw[decide_eq_true g',aj rfl,q,d,dc (by simpa[sA]using g)];simp;omega
  .have g':¬iH (gK z).box.lo (gK x).box.lo<0:=g;rw[y3 g',ae yD,dd (by simpa[sA]using g)];simp
def xL{c:Type}(q:c->Bool)(l:List c):l.take (I<|l.takeWhile q)=l.takeWhile q/\l.drop (I<|l.takeWhile q)=l.dropWhile q:=by
 induction l with
 |nil=>exact⟨rfl,rfl⟩
 |cons a l d=>
  by_cases h:q a=J
  .rw[dc h,dY h];simp[d.1,d.2]
  .rw[dd h,dZ h];simp
def rn{n:Nat}{l:List Qa}{x:Qa}{y:Qc}(hn:n<=600)(hl:I l<=80000)(e:∀z∈l,I z.box.lo=n)(f:I y.box.lo=n/\(I y.box.hi)=n)(j:gm y.box.lo y.box.hi=gA x)(k:gA x=J->y=gK x):Zo (l.map gK,y)=O ((js l x).map gK):=by
 unfold Zo js;have e0:=El (lo:=y.box.lo) (hi:=y.box.hi) y9 y9;have c:Jb y.box=O (!gm y.box.lo y.box.hi):=e0;simp only[c,Qf,j];by_cases g:gA x=J
 .have m:=k g;subst m;have d:=L4 x f.1 hn l [] e yA;simp only[jQ,jL,jJ,zZ]at d;have p:I (l.takeWhile<|sA x)<=I l:=(List.takeWhile_sublist _).length_le;have q:I (l.dropWhile<|sA x)<=I l:=(List.dropWhile_sublist _).length_le;obtain⟨r,s⟩:=xL (sA x) l
  have t:sub (l.map gK) 0 (I (l.takeWhile<|sA x):Int)=O ((l.takeWhile<|sA x).map gK):=by rw[sub,aj ⟨by omega,by omega,by simp;omega⟩];simp only[ca,bB,bP,<-cM,r]
  have u:sub (l.map gK) (I (l.takeWhile<|sA x):Int) (I (l.map gK):Int)=O ((l.dropWhile<|sA x).map gK):=by rw[sub,aj ⟨by omega,by simp;omega,by omega⟩];simp only[ca,cG,<-dr,s]
  have v:(⟨⟨(gK x).box.lo,(gK x).box.hi⟩,⟨(gK x).be.bx,(gK x).be.bc,(gK x).be.ek,(gK x).be.bm,(gK x).be.ed,(gK x).be.dk,(gK x).be.ep⟩⟩:Qc)=gK x:=rfl;rw[g];simp only[aF,j6,ai,d,Qf,t,u,ak,v];rw[gn yA y9,Qf,gn yA y9,Qf,gn yA y9,Qf,Gw];simp
 .have g':=(aS _).mp g;rw[g'];simp
def oW(l:List Qa)(x:Qa):I (js l x)<=I l+1:=by
 unfold js;split
 .rw[(nU x l).length_eq];simp
 .omega
def rS{n:Nat}{l:List Qa}{x:Qa}(c:∀z∈l,I z.box.lo=n)(d:I x.box.lo=n):∀z∈js l x,I z.box.lo=n:=λz h=>by
 unfold js at h;split at h
 .rcases ar.1 ((nU x l).mem_iff.1 h)with rfl|h
  .exact d
  .exact c z h
 .exact c z h
def B9{r:Nat}{a:Qj}{n:Int}{st:fJ}(h:la r a)(c:a.bx≠1):RN (kA a,n,st)=O (kA<|nt a n st):=by
 obtain⟨d,e,ba,s,f,sp,md⟩:=a;rcases h with h|⟨h|h,g⟩<;>simp only at h c<;>subst h
 .exact absurd rfl c
 .simp only[RN,kA,ak,Qf,show¬(2:Int)=3 by decide,ai,nt,show¬(2:Int)=1 by decide]
 .simp only[RN,kA,ak,Qf,show¬(3:Int)=2 by decide,ai,nt,show¬(3:Int)=1 by decide]
def BK{r:Nat}{a:Qj}{k:Nat}(n:Int)(h:la r a)(d:k<r):YX (kA a,(k:Int),n)=O (kA<|mw a k n):=by
 by_cases c:a.bx=1
 .have e:(kA a).bx=1:=c;simp only[YX,e,ak,mw,nt,c]
 .have e:¬(kA a).bx=1:=c;have f:I a.bm=r:=by rcases h with h|h;exact absurd h c;exact h.2
  have hi:idx (kA a).bm (k:Int)=O (a.bm.getD k 0):=by
   show idx a.bm (k:Int)=_
   rw[gP y9];exact ky y9
  have:=B9 (n:=W (n*a.bm.getD k 0)) (st:=a.bm) h c;simp only[YX,e,ai,hi,Qf];rw[show(kA a).bm=a.bm from rfl,this];rfl
def PY{r:Nat}{a:Qj}{k:Nat}(n:Int)(h:la r a)(d:k<r)(f:r<=600):Ta (kA a,(k:Int),n)=O (kA<|tu a k n):=by
 by_cases c:a.bx=1
 .have e:(kA a).bx=1:=c;simp only[Ta,e,ak,tu,nt,c]
 .have e:¬(kA a).bx=1:=c;have g:I a.bm=r:=by rcases h with h|h;exact absurd h c;exact h.2
  have hi:idx a.bm (k:Int)=O (a.bm.getD k 0):=by rw[gP y9];exact ky y9
  have hst:iM a.bm (k:Int) (W<|0 - a.bm.getD k 0)=O (a.bm.set k<|W<|0 - a.bm.getD k 0):=iV y9;have:=B9 (n:=W (W (n - 1)*a.bm.getD k 0)) (st:=a.bm.set k (W<|0 - a.bm.getD k 0)) h c;have hc:app 8 ([]:fJ) a.bm=O a.bm:=kV y9;simp only[Ta,e,ai];rw[show(kA a).bm=a.bm from rfl,hc];simp only[Qf,hi,hst];rw[fX yB,Qf,this];rfl
def Fu{lo hi:fJ}{k:Nat}{a b:Int}(d:k<I lo)(c:k<I hi)(hl:I lo<=600)(e:I hi<=600):Yj (⟨lo,hi⟩,(k:Int),a,b)=O ⟨lo.set k a,hi.set k b⟩:=by have c1:app 8 ([]:fJ) lo=O lo:=kV hl;have c2:app 8 ([]:fJ) hi=O hi:=kV e;simp only[Yj,c1,c2,Qf,ky d,ky c,iV d,iV c,fX zU]
def se:∀(l h:fJ) (k:Nat) (a b:Int),k<I l->k<I h->gm (l.set k a) (h.set k b)=(decide (a<b) &&gm (l.eraseIdx k) (h.eraseIdx k))
 |c::l,d::h,0,a,b,_,_=>by simp[gm]
 |c::l,d::h,k+1,a,b,e,f=>by have g:=se l h k a b (by simpa using e) (by simpa using f);simp only[bV,gm,g,eO];cases decide (c<d)<;>cases decide (a<b)<;>simp
 |[],_,k,_,_,h,_=>by simp at h
 |_::_,[],k,_,_,_,h=>by simp at h
section
variable{P:Qa->Prop}{s:fJ}{k:Nat}{n:Int}
theorem HN(c:s[k]?=O n)(hn:n<=65536)(d:I s<=600):∀(l p out:List Qa),I p+I l<=50000->I out<=I p->(∀z∈out,I z.box.lo=I s)->(∀x∈l,jv s x.box.lo x.box.hi/\la (I s) x.be)->
  Ya ((p++l).map gK,(k:Int),n,out.map gK,(I p:Int))=O (((l.map<|l9 k n).foldl js out).map gK)
 |[],p,out,h,r,e,hw=>by
  rw[Ya]
  have:¬((I p:Int)<(I ((p++[]).map gK):Int)):=by simp
  simp only[this,ai];rfl
 |x::l,p,out,h,r,e,hw=>by
  rw[Ya];obtain⟨m,t⟩:=hw x (jM ..);obtain⟨l1,l2⟩:=jb m;obtain⟨a,b,f,g,L,k1,k2⟩:=qU m c;have u:((I p:Int)<(I ((p++x::l).map gK):Int)):=by simp;omega
  have v:idx ((p++x::l).map gK) (I p:Int)=O (gK x):=kH yB;have j:(l9 k n x).box.lo.length=I s:=by simp[l9,l1]
  have q:=HN c hn d l (p++[x]) (js out<|l9 k n x) (by simp at h |-;omega) (by have:=oW out (l9 k n x);simp;omega) (rS e j) (λy w=>hw y<|jG _ w);rw[<-Qs]at q;have A:W ((I p:Int)+1)=(I (p++[x]):Int):=jq (by simp at h;omega);have B:W (n - b)=n - b:=gE y9 y9;have C:W (n - a)=n - a:=gE y9 y9;have D:idx (gK x).box.lo (k:Int)=O a:=mU f;have E:idx (gK x).box.hi (k:Int)=O b:=mU g;have F:Yj ((gK x).box,(k:Int),n - b,n - a)=O ⟨x.box.lo.set k<|n - b,x.box.hi.set k<|n - a⟩:=Fu (lG f) (lG g) y9 y9;have G:Ta ((gK x).be,(k:Int),n)=O (kA<|tu x.be k n):=PY n t (lG c) d
  have H:Zo (out.map gK,⟨⟨x.box.lo.set k<|n - b,x.box.hi.set k<|n - a⟩,kA<|tu x.be k n⟩)=O ((js out<|l9 k n x).map gK):=by
   have K:l9 k n x=⟨⟨x.box.lo.set k<|n - b,x.box.hi.set k<|n - a⟩,tu x.be k n⟩:=by simp only[l9,ju f,ju g]
   rw[K];exact rn (n:=I s) d (by simp at h;omega) e ⟨by simp[l1],by simp[l2]⟩ rfl λ_=>rfl
  simp only[u,ak,v,Qf,D,E,B,C,F,G,H,A,q,zV,aY]
theorem OI{l:List Qa}{Q:Qa->Prop}(h:Inv P s l)(hc:fY s=0)(f:fQ s<=20000)(c:s[k]?=O n)(g:E2 Q s (l.map<|l9 k n)):UJ (l.map gK,(k:Int),n)=O ((iY<|(l.map<|l9 k n).filter gA).map gK):=by obtain⟨q,r,j⟩:=fT hc;have m:=h.pb hc f;have e:=HN c (j n<|jF c).2 y9 l [] [] (by simpa using by omega) yB (λz p=>by simp at p) (λx d=>⟨h.wk x d,h.acc x d⟩);have e':Ya (l.map gK,(k:Int),n,[],0)=O (((l.map<|l9 k n).foldl js []).map gK):=e;simp only[UJ,e',Qf,rh g.v7]
theorem yM{out:List Qa}{x:Qa}{f t d a b a' b':Int}(l:I s<=600)(hl:I out<=80000)(m:∀z∈out,I z.box.lo=I s)(p:jv s x.box.lo x.box.hi)(v:s[k]?=O n)(e:x.box.lo[k]?=O a)(g:x.box.hi[k]?=O b)(j:a'<b'↔lE a f t+d<mJ a b f t+d)(q:a'<b'->a'=lE a f t+d/\b'=mJ a b f t+d):Zo (out.map gK,⟨⟨x.box.lo.set k a',x.box.hi.set k b'⟩,kA<|mw x.be k<|W<|0 - d⟩)=O ((js out<|il k f t d x).map gK):=by
 obtain⟨l1,l2⟩:=jb p;have k1:=lG e;have k2:=lG g;have r:il k f t d x=⟨⟨x.box.lo.set k<|lE a f t+d,x.box.hi.set k<|mJ a b f t+d⟩,mw x.be k<|W<|0 - d⟩:=by simp only[il,ju e,ju g]
 rw[r];refine rn (n:=I s) l hl m ⟨by simp[l1],by simp[l2]⟩ ?_ λu=>?_
 .show gm (x.box.lo.set k a') (x.box.hi.set k b')=gm (x.box.lo.set k<|lE a f t+d) (x.box.hi.set k<|mJ a b f t+d)
  rw[se _ _ _ _ _ k1 k2,se _ _ _ _ _ k1 k2,decide_eq_decide.2 j]
 .have c:gm (x.box.lo.set k<|lE a f t+d) (x.box.hi.set k<|mJ a b f t+d)=J:=u;rw[se _ _ _ _ _ k1 k2,jE,zE,<-j]at c;obtain⟨q1,q2⟩:=q c.1;rw[q1,q2];rfl
theorem Il{m:Int}(c:s[k]?=O n)(hn:n<=65536)(q:I s<=600)(h0:0<=m)(V:m<=n):∀(l p out:List Qa),I p+I l<=30000->I out<=2*I p->(∀z∈out,I z.box.lo=I s)->(∀x∈l,jv s x.box.lo x.box.hi/\la (I s) x.be)->
  YM ((p++l).map gK,(k:Int),m,n,out.map gK,(I p:Int))=O (((l.flatMap<|mI k m n).foldl js out).map gK)
 |[],p,out,h,D,r,hw=>by
  rw[YM]
  have:¬((I p:Int)<(I ((p++[]).map gK):Int)):=by simp
  simp only[this,ai];rfl
 |x::l,p,out,h,D,r,hw=>by
  rw[YM];obtain⟨e,E⟩:=hw x (jM ..);obtain⟨l1,l2⟩:=jb e;obtain⟨a,b,g,j,k0,k1,k2⟩:=qU e c;have F:((I p:Int)<(I ((p++x::l).map gK):Int)):=by simp;omega
  have G:idx ((p++x::l).map gK) (I p:Int)=O (gK x):=kH yB;have w:(il k m n (0 - m) x).box.lo.length=I s:=by simp[il,l1]
  have A:(il k 0 m (n - m) x).box.lo.length=I s:=by simp[il,l1]
  have H:=oW out (il k m n (0 - m) x);have K:=oW (js out<|il k m n (0 - m) x) (il k 0 m (n - m) x);have Hb:=rS r w;have B:=Il c hn q h0 V l (p++[x]) (js (js out<|il k m n (0 - m) x)<|il k 0 m (n - m) x) (by simp at h |-;omega) (by simp only[jW,zH,jL];omega) (rS Hb A) (λy L=>hw y<|jG _ L);rw[<-Qs]at B;have M:I p<=30000:=by simp at h;omega
  have N:W ((I p:Int)+1)=(I (p++[x]):Int):=jq y9;have P:idx (gK x).box.lo (k:Int)=O a:=mU g;have Q:idx (gK x).box.hi (k:Int)=O b:=mU j;have R:W ((if a<m then m else a) - m)=(if a<m then m else a) - m:=by split <;>exact gE y9 y9
  have S:W (b - m)=b - m:=gE y9 y9;have T:W (a+n)=a+n:=gE y9 y9;have X:W (a+n - m)=a+n - m:=gE y9 y9;have Y:W ((if m<b then m else b)+n)=(if m<b then m else b)+n:=by split <;>exact gE y9 y9
  have w6:W ((if m<b then m else b)+n - m)=(if m<b then m else b)+n - m:=by split <;>exact gE y9 y9
  have w7:W (m - n)=m - n:=gE y9 y9;have w8:W (0 - (0 - m))=m:=by rw[gE y9 y9];omega
  have w9:W (0 - (n - m))=m - n:=by rw[gE y9 y9];omega
  have ec:∀u v,Yj ((gK x).box,(k:Int),u,v)=O ⟨x.box.lo.set k u,x.box.hi.set k v⟩:=λu v=>Fu (lG g) (lG j) y9 y9
  have es:∀u,YX ((gK x).be,(k:Int),u)=O (kA<|mw x.be k u):=λu=>BK u E<|lG c
  have p1:=yM (out:=out) (x:=x) (f:=m) (t:=n) (d:=0 - m) (a':=(if a<m then m else a) - m) (b':=b - m) q y9 r e c g j (by unfold mJ lE;split <;>split <;>(try split)<;>(try split)<;>omega) (by unfold mJ lE;intro h;split <;>split at h<;>(try split)<;>(try split)<;>omega);have C:=yM (out:=js out (il k m n (0 - m) x)) (x:=x) (f:=0) (t:=m) (d:=n - m) (a':=a+n - m) (b':=(if m<b then m else b)+n - m) q y9 Hb e c g j (by unfold mJ lE;split <;>split <;>(try split)<;>(try split)<;>omega) (by unfold mJ lE;intro h;split <;>split at h<;>(try split)<;>(try split)<;>omega);rw[w8]at p1;rw[w9]at C;simp only[F,ak,G,Qf,P,Q,R,S,T,X,Y,w6,w7,ec,es,p1,C,N,B,aI,mI,dq,aY,fe]
theorem Rb{l:List Qa}{m:Int}{Q:Qa->Prop}(h:Inv P s l)(hc:fY s=0)(f:fQ s<=20000)(c:s[k]?=O n)(h0:0<=m)(V:m<=n)(g:E2 Q s (l.flatMap<|mI k m n)):UP (l.map gK,(k:Int),m,n)=O ((iY<|(l.flatMap<|mI k m n).filter gA).map gK):=by obtain⟨r,t,j⟩:=fT hc;have p:=h.pb hc f;have e:=Il c (j n<|jF c).2 y9 h0 V l [] [] (by simpa using by omega) yB (λz q=>by simp at q) (λx d=>⟨h.wk x d,h.acc x d⟩);have e':YM (l.map gK,(k:Int),m,n,[],0)=O (((l.flatMap<|mI k m n).foldl js []).map gK):=e;simp only[UP,e',Qf,rh g.v7]
end
def FT(a:Qj):Prop:=W a.ek=a.ek/\W a.ed=a.ed
def ME{a:Qj}{k:Nat}(h:FT a):mw a k (W<|0 - 0)=a:=by
 obtain⟨e,f,ba,st,g,sp,md⟩:=a;obtain⟨c,d⟩:=h;simp only at c d;have w:W (0 - 0)=0:=by decide
 have w0:W 0=0:=by decide
 simp only[mw,nt,w,dE,w0,eJ,c,d,ite_self]
def NL{s:fJ}{k:Nat}{n:Int}{x:Qa}(e:jv s x.box.lo x.box.hi)(f:s[k]?=O n)(hn:n<=65536)(g:FT x.be):il k 0 65536 0 x=x:=by
 obtain⟨a,b,c,d,j,k1,k2⟩:=qU e f;have c1:lE a 0 65536+0=a:=by unfold lE;split <;>(try split)<;>omega
 have c2:mJ a b 0 65536+0=b:=by unfold mJ lE;split <;>split <;>(try split)<;>(try split)<;>omega
 unfold il;rw[ju c,ju d,c1,c2,ka c,ka d,ME g]
section
variable{P1 P2:Qa->Prop}{s:fJ}{k:Nat}{n1 n2:Int}
theorem G8(d:I s<=600)(p1:List Qc)(e f:Int):∀(l p out:List Qa),I p+I l<=30000->I out<=I p->(∀z∈out,I z.box.lo=I s)->(∀x∈l,jv s x.box.lo x.box.hi)->
  ZR ((p++l).map gK,p1,e,f,out.map gK,(I p:Int))=O ((l.foldl js out).map gK)
 |[],p,out,h,j,c,hw=>by
  rw[ZR]
  have:¬((I p:Int)<(I ((p++[]).map gK):Int)):=by simp
  simp only[this,ai];rfl
 |x::l,p,out,h,j,c,hw=>by
  rw[ZR];obtain⟨l1,l2⟩:=jb (hw x<|jM ..);have k:((I p:Int)<(I ((p++x::l).map gK):Int)):=by simp;omega
  have m:idx ((p++x::l).map gK) (I p:Int)=O (gK x):=kH yB;have q:I p<=30000:=by simp at h;omega
  have r:=oW out x;have g:=G8 d p1 e f l (p++[x]) (js out x) (by simp at h |-;omega) yA (rS c l1) (λy t=>hw y<|jG _ t);rw[<-Qs]at g;have u:W ((I p:Int)+1)=(I (p++[x]):Int):=jq y9;have v:Zo (out.map gK,gK x)=O ((js out x).map gK):=rn (n:=I s) d y9 c ⟨l1,l2⟩ rfl λ_=>rfl
  simp only[k,ak,m,Qf,v,u,g,aY]
theorem IB{m:Int}(c:s[k]?=O m)(V:m<=65536)(w:I s<=600)(h0:0<=n1)(e:n1<=65536):∀(l p out:List Qa),I p+I l<=30000->I out<=I p+30000->(∀z∈out,I z.box.lo=I s)->(∀x∈l,jv s x.box.lo x.box.hi/\la (I s) x.be)->
  ZS ((p++l).map gK,(k:Int),n1,out.map gK,(I p:Int))=O (((l.map<|il k 0 65536 n1).foldl js out).map gK)
 |[],p,out,h,B,g,hw=>by
  rw[ZS]
  have:¬((I p:Int)<(I ((p++[]).map gK):Int)):=by simp
  simp only[this,ai];rfl
 |x::l,p,out,h,B,g,hw=>by
  rw[ZS];obtain⟨j,C⟩:=hw x (jM ..);obtain⟨l1,l2⟩:=jb j;obtain⟨a,b,n,q,R,k1,k2⟩:=qU j c;have D:((I p:Int)<(I ((p++x::l).map gK):Int)):=by simp;omega
  have E:idx ((p++x::l).map gK) (I p:Int)=O (gK x):=kH yB;have F:I p<=30000:=by simp at h;omega
  have r:(il k 0 65536 n1 x).box.lo.length=I s:=by simp[il,l1]
  have G:=oW out (il k 0 65536 n1 x);have A:=IB c V w h0 e l (p++[x]) (js out<|il k 0 65536 n1 x) (by simp at h |-;omega) yA (rS g r) (λy H=>hw y<|jG _ H);rw[<-Qs]at A;have K:W ((I p:Int)+1)=(I (p++[x]):Int):=jq y9;have L:idx (gK x).box.lo (k:Int)=O a:=mU n;have M:idx (gK x).box.hi (k:Int)=O b:=mU q;have N:W (a+n1)=a+n1:=gE y9 y9;have P:W (b+n1)=b+n1:=gE y9 y9;have Q:∀u v,Yj ((gK x).box,(k:Int),u,v)=O ⟨x.box.lo.set k u,x.box.hi.set k v⟩:=λu v=>Fu (lG n) (lG q) y9 y9
  have es:∀u,YX ((gK x).be,(k:Int),u)=O (kA<|mw x.be k u):=λu=>BK u C<|lG c
  have p1:=yM (out:=out) (x:=x) (f:=0) (t:=65536) (d:=n1) (a':=a+n1) (b':=b+n1) w y9 g j c n q (by unfold mJ lE;split <;>split <;>(try split)<;>(try split)<;>omega) (by unfold mJ lE;intro h;split <;>split <;>(try split)<;>(try split)<;>omega);simp only[D,ak,E,Qf,L,M,N,P,Q,es,p1,K,A,zV,aY]
theorem OD{l1 l2:List Qa}{Q:Qa->Prop}(n:Inv P1 (s.set k n1) l1)(p:Inv P2 (s.set k n2) l2)(c:fY (s.set k n1)=0)(e:fY (s.set k n2)=0)(q:fQ (s.set k n1)<=20000)(r:fQ (s.set k n2)<=20000)(D:s[k]?=O (n1+n2))(E:∀x∈l1,FT x.be)(y:E2 Q s (l1.map (il k 0 65536 0)++l2.map (il k 0 65536 n1))):Ur (l1.map gK,l2.map gK,(k:Int),n1)=O ((iY<|(l1.map (il k 0 65536 0)++l2.map (il k 0 65536 n1)).filter gA).map gK):=by
 have A:=n.pb c q;have B:=p.pb e r;have f:k<I s:=lG D;have g:(s.set k n1)[k]?=O n1:=by simp[f]
 have j:(s.set k n2)[k]?=O n2:=by simp[f]
 have b1:=(fT c).2.2 n1 (jF g);have b2:=(fT e).2.2 n2 (jF j);have C:=(fT c).1;have F:I s<=16:=by have:=(fT c).1;rwa [zU]at this
 have t:l1.map (il k 0 65536 0)=l1:=by
  have:l1.map (il k 0 65536 0)=l1.map id:=aJ λx l=>NL (n.wk x l) g b1.2<|E x l
  rw[this,cD]
 have G:=G8 (s:=s.set k n1) y9 (l2.map gK) (k:Int) n1 l1 [] [] (by simpa using by omega) yB (λz u=>by simp at u) n.wk;have v:ZR (l1.map gK,l2.map gK,(k:Int),n1,[],0)=O ((l1.foldl js []).map gK):=G
 have m:I (l1.foldl js [])<=30000/\∀z∈l1.foldl js [],I z.box.lo=I (s.set k n2):=by
  have d:=lL l1 [];rw[jV]at d;refine⟨?_,λz u=>?_⟩
  .rw[d.length_eq];exact jX (cR _ _) y9
  .have:=(bp.1<|d.mem_iff.1 u).1;have:=(jb<|n.wk z this).1
   simpa using this
 have H:=IB (s:=s.set k n2) (n1:=n1) j b2.2 (by simpa using by simpa using by omega) b1.1 b1.2 l2 [] (l1.foldl js []) (by simpa using by omega) (by simpa using m.1) m.2 (λx l=>⟨p.wk x l,p.acc x l⟩);have w:ZS (l2.map gK,(k:Int),n1,(l1.foldl js []).map gK,0)=O (((l2.map<|il k 0 65536 n1).foldl js<|l1.foldl js []).map gK):=H;simp only[Ur,v,Qf,w,<-dq];rw[t]at y |-;rw[rh y.v7]
end
def LZ(d p0:Qb)(j:Int):∀(s t p q:fJ) (v r:Int),d.aa=p++s->p0.eh=q++t->I s=I t->I p=I q->Sm (I<|p++s)->
  QT (d,p0,j,v,(I p:Int))=O r->r=v\/(j,r)∈t.zip s
 |[],[],p,q,v,r,e,f,_,g,k,h=>by rw[QT]at h;simp only[e,Q1,ai]at h;cases h;exact .inl rfl
 |n::s,x::t,p,q,v,r,e,f,u,g,k,h=>by
  rw[QT]at h;have m:=λv h=>LZ d p0 j s t (p++[n]) (q++[x]) v r (by rw[e];simp) (by rw[f];simp) (by simpa using u) (by simp[g]) (by rw[<-Qs];exact k) h
  have hi:idx (q++x::t) (I p:Int)=O x:=by rw[g];exact Qv
  simp only[e,f,QX,ak,hi,Qf,Qv,kQ k]at h;have kk:QT (d,p0,j,v,(I (p++[n]):Int))=O r->r=v\/(j,r)∈(x::t).zip (n::s):=λh=>(m v h).imp id λh=>jG _ h
  have new:x=j->QT (d,p0,j,n,(I (p++[n]):Int))=O r->r=v\/(j,r)∈(x::t).zip (n::s):=λc h=>by
   rcases m n h with rfl|h
   .right;rw[c];exact jM ..
   .exact .inr<|jG _ h
  by_cases c:x=j
  .simp only[c,ak]at h;by_cases l:v<0
   .simp only[l,ak,Qf]at h;exact new c h
   .by_cases hn:n<v
    .simp only[l,hn,ai,Qf,decide_true,ak]at h;exact new c h
    .simp only[l,hn,ai,Qf,y5,j6]at h;exact kk h
  .simp only[c,ai,Qf,j6]at h;exact kk h
 |[],_::_,_,_,_,_,_,_,h,_,_,_=>by cases h
 |_::_,[],_,_,_,_,_,_,h,_,_,_=>by cases h
def KY(c p0:Qb)(hl:I c.aa=I p0.eh)(d:Sm (I c.aa)):∀(s p:fJ),p0.aa=p++s->Sm (I<|p++s)->
  Q8 (p0,c,(I p:Int))=O (.inr ())->∀k,k<I s->s.getD k 0=-1\/(((I p+k:Nat):Int),s.getD k 0)∈p0.eh.zip c.aa
 |[],p,e,f,_,k,g=>by cases g
 |n::s,p,e,f,h,k,g=>by
  rw[Q8]at h;obtain⟨r,l,_⟩:=Na c p0 (I p:Int) c.aa p0.eh [] [] (-1) rfl rfl hl rfl d;have m:=LZ c p0 (I p:Int) c.aa p0.eh [] [] (-1) r rfl rfl hl rfl d l;have j:QT (c,p0,(I p:Int),-1,0)=O r:=l;have q:=KY c p0 hl d s (p++[n]) (by rw[e];simp) (by rw[<-Qs];exact f);simp only[e,QX,ak,j,Qf,Qv,kQ f]at h;by_cases hn:r=n
  .rw[ae (λh=>h hn)]at h;cases k with
   |zero=>subst hn;simpa using m
   |succ k=>
    have:=q h k (by simpa using g);simp only[jW,zH,jL]at this;rw[show I p+(k+1)=I p+(0+1)+k by omega]
    simpa using this
  .rw[aj hn]at h;cases h
def PE{c k:Qb}{r:List Qb}(g:nB c)(l:c.bx=5)(m:c.ea=k::r)(p:I k.aa<=600):∀j,j<I c.aa->((j:Int),c.aa.getD j 0)∈c.eh.zip k.aa:=λj n=>by
 obtain⟨u,v,q⟩:=fT g.ns;have d:=g.tr2 l;have hl:=(g.x7 l k r m).1;have hi:idx c.ea 0=O k:=by rw[m];rfl
 have s:Sm (I<|[]++k.aa):=hZ (show([]++k.aa).length<=1000 by simp;omega);have t:Sm (I<|[]++c.aa):=hZ (show([]++c.aa).length<=1000 by simp;omega)
 have f:Q8 (c,k,0)=O (.inr ()):=by
  unfold Xu at d;simp only[hi,Qf]at d;rw[ae y9]at d;cases e:Zn (k,c,0)with
  |none=>rw[e]at d;cases d
  |some o=>
   rw[e,Qf]at d;cases o with
   |inl _=>cases d
   |inr _=>
    simp only at d;cases f:Q8 (c,k,0)with
    |none=>rw[f]at d;cases d
    |some o=>
     rw[f,Qf]at d;cases o with
     |inl _=>cases d
     |inr _=>rfl
 rcases KY k c hl.symm s c.aa [] rfl t f j n with h|h
 .have:=(q (c.aa.getD j 0) (by rw[gP n];exact zD _)).1;omega
 .simpa using h
def MY(j:Int):fJ->fJ->Int->Int
 |p::c,a::l,v=>MY j c l (if p=j then(if v<a then a else v)else v)
 |_,_,v=>v
def FW(j:Int):fJ->fJ->Int->Int
 |p::c,b::h,v=>FW j c h (if p=j then(if b<v then b else v)else v)
 |_,_,v=>v
def I7(j:Int):fJ->fJ->Int->Int
 |p::d,c::st,v=>I7 j d st (if p=j then W (v+c)else v)
 |_,_,v=>v
def sx{l:fJ}{i j:Nat}{v:Int}(hi:i<I l):(l.set i v).getD j 0=if i=j then v else l.getD j 0:=by simp only[jB,zF,hi,ak];split <;>rfl
def Ab(j:Nat):∀(c l lo:fJ),(∀p∈c,0<=p/\p.toNat<I lo)->(nI c l lo).getD j 0=MY (j:Int) c l (lo.getD j 0)
 |[],_,_,_=>by rw[nI,MY]<;>simp
 |_::_,[],_,_=>by rw[nI,MY]<;>simp
 |p::c,a::l,lo,h=>by
  obtain⟨g,d⟩:=h p (jM ..);rw[nI,MY,Ab j c l _ (λq f=>by rw[zU];exact h q<|jG _ f),sx d];by_cases e:p=(j:Int)
  .rw[aj e,aj y9,show p.toNat=j by omega]
  .rw[ae e,ae y9]
def AI(j:Nat):∀(c l hi:fJ),(∀p∈c,0<=p/\p.toNat<I hi)->(nJ c l hi).getD j 0=FW (j:Int) c l (hi.getD j 0)
 |[],_,_,_=>by rw[nJ,FW]<;>simp
 |_::_,[],_,_=>by rw[nJ,FW]<;>simp
 |p::c,a::l,hi,h=>by
  obtain⟨g,d⟩:=h p (jM ..);rw[nJ,FW,AI j c l _ (λq f=>by rw[zU];exact h q<|jG _ f),sx d];by_cases e:p=(j:Int)
  .rw[aj e,aj y9,show p.toNat=j by omega]
  .rw[ae e,ae y9]
def C9(j:Nat):∀(c l out:fJ),(∀p∈c,0<=p/\p.toNat<I out)->(qY c l out).getD j 0=I7 (j:Int) c l (out.getD j 0)
 |[],_,_,_=>by rw[qY,I7]<;>simp
 |_::_,[],_,_=>by rw[qY,I7]<;>simp
 |p::c,a::l,out,h=>by
  obtain⟨g,d⟩:=h p (jM ..);rw[qY,I7,C9 j c l _ (λq f=>by rw[zU];exact h q<|jG _ f),sx d];by_cases e:p=(j:Int)
  .rw[aj e,aj y9,show p.toNat=j by omega,dF,so]
  .rw[ae e,ae y9]
def wL(j:Int){b:Int}:∀(d h:fJ) (v w:Int),v<=w->(j,b)∈d.zip h->b<=v->FW j d h v=FW j d h w
 |[],_,_,_,_,h,_=>by simp at h
 |_::_,[],_,_,_,h,_=>by simp at h
 |p::d,c::h,v,w,f,V,k=>by
  rw[FW,FW];rw[List.zip_cons_cons]at V;by_cases e:p=j
  .rw[aj e,aj e];by_cases g:c<v
   .rw[aj g,aj (show c<w by omega)]
   .rw[ae g];rcases ar.1 V with q|q
    .have:b=c:=(Prod.mk.inj q).2
     by_cases l:c<w
     .rw[aj l,show v=c by omega]
     .rw[ae l,show v=w by omega]
    .exact wL j d h _ _ (by split <;>omega) q k
  .rw[ae e,ae e];rcases ar.1 V with q|q
   .exact absurd (Prod.mk.inj q).1.symm e
   .exact wL j d h _ _ f q k
def xq{a:fJ}{n:Nat}{f:Nat->Int}(h:I a=n)(c:∀j,j<n->a.getD j 0=f j):a=(List.range' 0 n).map f:=by
 refine cE (by simp[h]) λj d e=>?_
 have:=c j y9;rw[gP d]at this;rw[this];simp
def Hw(perm:fJ)(j:Int)(p0:List Qc)(i:Int)(x:Qa)(s:idx p0 i=O (gK x))(t:fJ)(out:List Qc)(q1 q2:fJ):∀(d l h c f g:fJ) (v w:Int),perm=c++d->x.box.lo=f++l->x.box.hi=g++h->I l=I d->I h=I d->I f=I c->I g=I c->I c+I d<=600->
  Zw (perm,j,p0,i,t,out,q1,q2,v,w,(I c:Int))=O (MY j d l v,FW j d h w)
 |[],[],[],c,f,g,v,w,e0,k,m,u,y,n,q,r=>by rw[Zw];simp only[e0,Q1,ai];rfl
 |p::d,a::l,b::h,c,f,g,v,w,e0,k,m,u,y,n,q,r=>by
  rw[Zw];have z:idx (gK x).box.lo (I c:Int)=O a:=by show idx x.box.lo _=_;rw[k,<-n];exact Qv
  have A:idx (gK x).box.hi (I c:Int)=O b:=by show idx x.box.hi _=_;rw[m,<-q];exact Qv
  have B:=λv w=>Hw perm j p0 i x s t out q1 q2 d l h (c++[p]) (f++[a]) (g++[b]) v w (by rw[e0,Qs]) (by rw[k,Qs]) (by rw[m,Qs]) (by simpa using u) (by simpa using y) (by simp[n]) (by simp[q]) (by simp at r |-;omega)
  have C:I c<=100000:=by simp at r;omega
  have D:W ((I c:Int)+1)=(I (c++[p]):Int):=jq C;have E:idx perm (I c:Int)=O p:=by rw[e0];exact Qv
  have lt:(I c:Int)<(I perm:Int):=by rw[e0];exact QX
  simp only[lt,ak,E,Qf,D,s,z,A,B,MY,FW];by_cases e:p=j
  .simp only[e,ak]
  .simp only[e,ai]
 |[],_::_,_,_,_,_,_,_,_,_,_,h,_,_,_,_=>by simp at h
 |[],_,_::_,_,_,_,_,_,_,_,_,_,h,_,_,_=>by simp at h
 |_::_,[],_,_,_,_,_,_,_,_,_,h,_,_,_,_=>by simp at h
 |_::_,_,[],_,_,_,_,_,_,_,_,_,h,_,_,_=>by simp at h
def vO{c:Type}(f:Nat->c)(i n:Nat):(List.range' i<|n+1).map f=f i::(List.range' (i+1) n).map f:=by rw[cn,zV]
def Ic(perm:fJ)(p0:List Qc)(i:Int)(x:Qa)(f:idx p0 i=O (gK x))(hl:I x.box.lo=I perm)(g:I x.box.hi=I perm)(c:I perm<=600)(out:List Qc):∀(s p lo hi:fJ),I lo=I p->I hi=I p->I p+I s<=600->
  Z1 (p++s,perm,p0,i,out,lo,hi,(I p:Int))=O (lo++(List.range' (I p)<|I s).map (λj:Nat=>MY (j:Int) perm x.box.lo 0),hi++(List.range' (I p)<|I s).map (λj:Nat=>FW (j:Int) perm x.box.hi 65536))
 |[],p,lo,hi,k,l,d=>by rw[Z1];simp only[Q1,ai];simp
 |n::s,p,lo,hi,k,l,d=>by
  rw[Z1];have e:=Hw perm (I p:Int) p0 i x f (p++n::s) out lo hi perm x.box.lo x.box.hi [] [] [] 0 65536 rfl rfl rfl hl g rfl rfl (by simpa using c);have e':Zw (perm,(I p:Int),p0,i,p++n::s,out,lo,hi,0,65536,0)=O (MY (I p:Int) perm x.box.lo 0,FW (I p:Int) perm x.box.hi 65536):=e;have q:I p<=100000:=by simp at d;omega
  have m:=Ic perm p0 i x f hl g c out s (p++[n]) (lo++[MY (I p:Int) perm x.box.lo 0]) (hi++[FW (I p:Int) perm x.box.hi 65536]) (by simp[k]) (by simp[l]) (by simp at d |-;omega);rw[<-Qs]at m;have r:W ((I p:Int)+1)=(I (p++[n]):Int):=jq q;have t:I p<=600:=by simp at d;omega
  simp only[QX,ak,e',Qf];rw[gn yA y9,Qf,gn yA y9,Qf,r,m];simp only[zH,vO,jW,jL,ay,aR,zZ]
def Gt(perm:fJ)(a:Qt)(j n:Int)(q:fJ):∀(g st d f:fJ) (v:Int),perm=d++g->a.bm=f++st->I st=I g->I f=I d->I d+I g<=600->
  ZM (perm,j,a,n,q,v,(I d:Int))=O (I7 j g st v)
 |[],[],d,f,v,e0,k,r,l,m=>by rw[ZM];simp only[e0,Q1,ai];rfl
 |p::g,c::st,d,f,v,e0,k,r,l,m=>by
  rw[ZM];have s:=λv=>Gt perm a j n q g st (d++[p]) (f++[c]) v (by rw[e0,Qs]) (by rw[k,Qs]) (by simpa using r) (by simp[l]) (by simp at m |-;omega)
  have t:I d<=100000:=by simp at m;omega
  have u:W ((I d:Int)+1)=(I (d++[p]):Int):=jq t;have w:idx perm (I d:Int)=O p:=by rw[e0];exact Qv
  have x:idx a.bm (I d:Int)=O c:=by rw[k,<-l];exact Qv
  have lt:(I d:Int)<(I perm:Int):=by rw[e0];exact QX
  simp only[lt,ak,w,Qf,u,x,s,I7];by_cases e:p=j
  .simp only[e,ak]
  .simp only[e,ai]
 |[],_::_,_,_,_,_,_,h,_,_=>by simp at h
 |_::_,[],_,_,_,_,_,h,_,_=>by simp at h
def Hr(perm:fJ)(a:Qt)(d:I a.bm=I perm)(c:I perm<=600):∀(n i r:Nat) (out:fJ),I out=i->i+n=r->r<=600->
  Z7 ((r:Int),perm,a,out,(i:Int))=O (out++(List.range' i n).map (λj:Nat=>I7 (j:Int) perm a.bm 0))
 |0,i,r,out,f,k,g=>by rw[Z7];rw[ae y9];simp
 |n+1,i,r,out,f,k,g=>by rw[Z7];have e:=Gt perm a (i:Int) (r:Int) out perm a.bm [] [] 0 rfl rfl d rfl (by simpa using c);have e':ZM (perm,(i:Int),a,(r:Int),out,0,0)=O (I7 (i:Int) perm a.bm 0):=e;have l:=Hr perm a d c n (i+1) r (out++[I7 (i:Int) perm a.bm 0]) (by simp[f]) y9 g;rw[aj y9];simp only[e',Qf];rw[gn yA y9,Qf,pY y9,l,vO];simp
def Pt{a:Qj}{perm:fJ}{r:Nat}(h:la (I perm) a)(hl:I perm<=600)(g:r<=600)(k:∀j∈perm,0<=j/\j.toNat<r)(hn:FT a):Jw (kA a,perm,(r:Int))=O (kA<|p7 a perm r):=by
 by_cases c:a.bx=1
 .have e:(kA a).bx=1:=c;simp only[Jw,e,ak,p7,c]
 .have e:¬(kA a).bx=1:=c;have l:I a.bm=I perm:=by rcases h with h|h;exact absurd h c;exact h.2
  have m:=Hr perm (kA a) l hl r 0 r [] rfl y9 g;have d:Z7 ((r:Int),perm,kA a,[],0)=O ((List.range' 0 r).map (λj:Nat=>I7 (j:Int) perm a.bm 0)):=m;have q:=B9 (n:=0) (st:=(List.range' 0 r).map (λj:Nat=>I7 (j:Int) perm a.bm 0)) h c
  have s:qY perm a.bm (Nab r 0)=(List.range' 0 r).map (λj:Nat=>I7 (j:Int) perm a.bm 0):=xq (by rw[ny];simp) λj t=>by rw[C9 j _ _ _ (λp f=>by simpa using k p f),xJ]
  simp only[Jw,e,ai,d,Qf,q];congr 2;obtain⟨u,v,ba,st,w,sp,md⟩:=a;obtain⟨n1,n2⟩:=hn;simp only at n1 n2 c;simp only[p7,ae c,nt,eJ,n1,n2,s,ite_self]
section
variable{P:Qa->Prop}{s s0 perm:fJ}
theorem KQ(z:I s<=600)(c:∀n∈s,n<=65536)(m:∀j∈perm,0<=j/\j.toNat<I s)(t:∀j,j<I s->((j:Int),s.getD j 0)∈perm.zip s0){x:Qa}(u:I perm=I s0)(q:jv s0 x.box.lo x.box.hi):
  (List.range' 0<|I s).map (λj:Nat=>MY (j:Int) perm x.box.lo 0)=nI perm x.box.lo (Nab (I s) 0)/\(List.range' 0<|I s).map (λj:Nat=>FW (j:Int) perm x.box.hi 65536)=nJ perm x.box.hi s:=by
 constructor
 .refine(xq (by rw[mZ];simp) λj d=>?_).symm;rw[Ab j _ _ _ (λp f=>by simpa using m p f),xJ]
 .refine(xq (by rw[nS]) λj d=>?_).symm;rw[AI j _ _ _ m];obtain⟨i,hi,e⟩:=bD (t j d);rw[List.getElem_zip]at e;obtain⟨v,A⟩:=Prod.mk.inj e;have w:i<I perm:=by simp at hi;omega
  have g:i<I s0:=by omega
  obtain⟨l1,l2⟩:=jb q;obtain⟨a,b,g1,r,B,k1,k2⟩:=qU q (jC g);have k:i<I x.box.hi:=by omega
  have l:x.box.hi[i]=b:=by have:=jC k;rw[this]at r;exact jS r
  refine wL (j:Int) (b:=b) perm x.box.hi _ _ (c _ (by rw[gP d];exact zD _)) ?_ y9;have y:i<I (perm.zip x.box.hi):=by simp;omega
  have:=zD y;rw[List.getElem_zip,v,l]at this;exact this
theorem GQ(e:I s<=600)(f:∀n∈s,n<=65536)(g:∀j∈perm,0<=j/\j.toNat<I s)(q:∀j,j<I s->((j:Int),s.getD j 0)∈perm.zip s0)(c:I perm=I s0)(d:I perm<=600):∀(l p out:List Qa),I p+I l<=50000->I out<=I p->(∀z∈out,I z.box.lo=I s)->(∀x∈l,jv s0 x.box.lo x.box.hi/\la (I s0) x.be/\FT x.be)->
  ZJ ((p++l).map gK,s,perm,out.map gK,(I p:Int))=O (((l.map<|lA perm s).foldl js out).map gK)
 |[],p,out,h,w,k,hw=>by
  rw[ZJ]
  have:¬((I p:Int)<(I ((p++[]).map gK):Int)):=by simp
  simp only[this,ai];rfl
 |x::l,p,out,h,w,k,hw=>by
  rw[ZJ];obtain⟨r,A,hn⟩:=hw x (jM ..);obtain⟨l1,l2⟩:=jb r;have B:((I p:Int)<(I ((p++x::l).map gK):Int)):=by simp;omega
  have t:idx ((p++x::l).map gK) (I p:Int)=O (gK x):=kH yB;have m:(lA perm s x).box.lo.length=I s:=by simp[lA,mZ]
  have C:I p<=50000:=by simp at h;omega
  have u:=GQ e f g q c d l (p++[x]) (js out<|lA perm s x) (by simp at h |-;omega) (by have:=oW out (lA perm s x);simp;omega) (rS k m) (λy D=>hw y<|jG _ D);rw[<-Qs]at u;have E:W ((I p:Int)+1)=(I (p++[x]):Int):=jq y9;have v:=Ic perm ((p++x::l).map gK) (I p:Int) x t y9 y9 d (out.map gK) s [] [] [] rfl rfl (by simpa using e);obtain⟨b1,b2⟩:=KQ e f g q c r;simp only[jQ,jL,jJ,b1,b2]at v;have F:Jw ((gK x).be,perm,(I s:Int))=O (kA<|p7 x.be perm<|I s):=Pt (by rw[c];exact A) d e g hn
  have G:Zo (out.map gK,⟨⟨nI perm x.box.lo<|Nab (I s) 0,nJ perm x.box.hi s⟩,kA<|p7 x.be perm<|I s⟩)=O ((js out<|lA perm s x).map gK):=rn (n:=I s) e y9 k ⟨by simp[mZ],by simp[nS]⟩ rfl λ_=>rfl
  simp only[B,ak,v,Qf,t,F,G,E,u,zV,aY]
theorem Ol{l:List Qa}{Q:Qa->Prop}(h:Inv P s0 l)(c:fY s0=0)(d:fQ s0<=20000)(hc:fY s=0)(f:I perm=I s0)(m:∀j∈perm,0<=j/\j.toNat<I s)(p:∀j,j<I s->((j:Int),s.getD j 0)∈perm.zip s0)(hn:∀x∈l,FT x.be)(g:E2 Q s (l.map<|lA perm s)):J8 (l.map gK,perm,s)=O ((iY<|(l.map<|lA perm s).filter gA).map gK):=by obtain⟨u,v,q⟩:=fT hc;obtain⟨g1,w,y⟩:=fT c;have r:=h.pb c d;have e:=GQ (s:=s) (s0:=s0) (perm:=perm) y9 (λn hn=>(q n hn).2) m p f y9 l [] [] (by simpa using by omega) yB (λz t=>by simp at t) (λx k=>⟨h.wk x k,h.acc x k,hn x k⟩);have e':ZJ (l.map gK,s,perm,[],0)=O (((l.map<|lA perm s).foldl js []).map gK):=e;simp only[J8,e',Qf,rh g.v7]
end
def xy:fJ->fJ->fJ
 |l::lo,n::st=>(if W (l - n)<0 then 0 else W (l - n))::xy lo st
 |_,_=>[]
def yu:fJ->fJ->fJ->fJ
 |h::hi,t::ts,n::st=>(if t<W (h - n)then t else W (h - n))::yu hi ts st
 |_,_,_=>[]
def Bp:∀{lo st:fJ},I lo=I st->I (xy lo st)=I st
 |[],[],_=>rfl
 |l::lo,n::st,h=>by rw[xy,zH,zH,Bp (by simpa using h)]
 |[],_::_,h=>by simp at h
 |_::_,[],h=>by simp at h
def BS:∀{hi t st:fJ},I hi=I st->I t=I st->I (yu hi t st)=I st
 |[],[],[],_,_=>rfl
 |l::lo,t::ts,n::st,h,c=>by rw[yu,zH,zH,BS (by simpa using h) (by simpa using c)]
 |[],_,_::_,h,_=>by simp at h
 |_::_,_,[],h,_=>by simp at h
 |_,[],_::_,_,h=>by simp at h
 |_,_::_,[],_,h=>by simp at h
def KZ{l h t n:Int}(c:0<=t):((if W (l - n)<0 then 0 else W (l - n))<(if t<W (h - n)then t else W (h - n))↔CL l t n<IZ l h t n)/\
  ((if W (l - n)<0 then 0 else W (l - n))<(if t<W (h - n)then t else W (h - n))->(if W (l - n)<0 then 0 else W (l - n))=CL l t n/\(if t<W (h - n)then t else W (h - n))=IZ l h t n):=by
 unfold IZ CL;generalize W (l - n)=x;generalize W (h - n)=y;refine⟨?_,?_⟩
 .split <;>split <;>split <;>(try split)<;>omega
 .intro h;constructor <;>(split at h<;>split at h<;>(try split)<;>(try split)<;>(try split)<;>omega)
def Cz:∀{lo hi t st:fJ},I lo=I st->I t=I st->I hi=I st->(∀n∈t,0<=n)->gm (xy lo st) (yu hi t st)=gm (tg lo t st) (ti lo hi t st)/\(gm (xy lo st) (yu hi t st)=J->xy lo st=tg lo t st/\yu hi t st=ti lo hi t st)
 |[],[],[],[],_,_,_,_=>⟨rfl,λ_=>⟨rfl,rfl⟩⟩
 |l::lo,h::hi,t::ts,n::st,d,e,f,c=>by
  obtain⟨j,k⟩:=Cz (lo:=lo) (hi:=hi) (t:=ts) (st:=st) (by simpa using d) (by simpa using e) (by simpa using f) λm V=>c m<|jG _ V
  obtain⟨p,q⟩:=KZ (l:=l) (h:=h) (n:=n) (c t<|jM ..);simp only[xy,yu,tg,ti,gm];refine⟨by rw[j,decide_eq_decide.2 p],λg=>?_⟩;rw[jE,zE]at g;obtain⟨b1,b2⟩:=q g.1;obtain⟨r,s⟩:=k g.2;rw[b1,b2,r,s];exact⟨rfl,rfl⟩
 |[],_,_,_::_,h,_,_,_=>by simp at h
 |_::_,_,_,[],h,_,_,_=>by simp at h
 |_,[],_,_::_,_,_,h,_=>by simp at h
 |_,_::_,_,[],_,_,h,_=>by simp at h
 |_,_,[],_::_,_,h,_,_=>by simp at h
 |_,_,_::_,[],_,h,_,_=>by simp at h
def Gz:∀{lo hi s st:fJ},I lo=I st->I s=I st->I hi=I st->Nac sD (Nab (I s) 0) (xy lo st)=xy lo st/\Nac tf s (yu hi s st)=yu hi s st
 |[],[],[],[],_,_,_=>⟨rfl,rfl⟩
 |l::lo,h::hi,t::ts,n::st,c,d,e=>by
  obtain⟨f,g⟩:=Gz (lo:=lo) (hi:=hi) (s:=ts) (st:=st) (by simpa using c) (by simpa using d) (by simpa using e);rw[xy,yu,zH,aB,aX,aX,f,g]
  have a:sD 0 (if W (l - n)<0 then 0 else W (l - n))=(if W (l - n)<0 then 0 else W (l - n)):=by unfold sD;generalize W (l - n)=x;split <;>split at * <;>omega
  have b:tf t (if t<W (h - n)then t else W (h - n))=(if t<W (h - n)then t else W (h - n)):=by unfold tf;generalize W (h - n)=x;split <;>split at * <;>omega
  rw[a,b];exact⟨rfl,rfl⟩
 |[],_,_,_::_,h,_,_=>by simp at h
 |_::_,_,_,[],h,_,_=>by simp at h
 |_,[],_,_::_,_,_,h=>by simp at h
 |_,_::_,_,[],_,_,h=>by simp at h
 |_,_,[],_::_,_,h,_=>by simp at h
 |_,_,_::_,[],_,h,_=>by simp at h
def Mt(b:Qo):Qk:=⟨b.lo,b.hi⟩
def Rl:∀(lo hi c d:fJ),I c=I d->I lo=I hi->I c+I lo<=600->XB (⟨c++lo,d++hi⟩,(I c:Int))=O (if gm lo hi=J then .inr ()else .inl ())
 |[],[],c,d,f,j,h=>by rw[XB];simp only[Q1,ai];rfl
 |l::lo,h::hi,c,d,f,j,hl=>by
  rw[XB];have k:idx (d++h::hi) (I c:Int)=O h:=by rw[f];exact Qv
  have e:=Rl lo hi (c++[l]) (d++[h]) (by simp[f]) (by simpa using j) (by simp at hl |-;omega);rw[<-Qs,<-Qs]at e;simp only[QX,ak,k,Qv,Qf,X8 hl,e,gm];by_cases g:l<h
  .rw[ae (show¬l>=h by omega)];simp only[g,decide_true,bg]
  .rw[aj (show l>=h by omega)];simp only[g,y5,cm];rfl
 |[],_::_,_,_,_,h,_=>by cases h
 |_::_,[],_,_,_,h,_=>by cases h
def sv{lo hi:fJ}(h:I lo=I hi)(hl:I lo<=600):JH ⟨lo,hi⟩=O (!gm lo hi):=by have e:=Rl lo hi [] [] rfl h (by simpa using hl);simp only[jQ,jL,jJ]at e;simp only[JH,e,Qf];cases gm lo hi<;>rfl
def Im:∀(a b c d f g j k o1 o2:fJ),I b=I a->I c=I a->I d=I a->I g=I f->I j=I f->I k=I f->I o1=I f->I o2=I f->I f+I a<=600->
  Z0 (⟨f++a,g++b⟩,⟨j++c,k++d⟩,o1,o2,(I f:Int))=O (o1++Nac sD a c,o2++Nac tf b d)
 |[],[],[],[],f,g,j,k,o1,o2,_,_,_,_,_,_,_,_,_=>by rw[Z0];simp only[Q1,ai];simp
 |x::a,y::b,z::c,w::d,f,g,j,k,o1,o2,p,q,r,l,m,n,s,t,hl=>by
  rw[Z0];have u:idx (g++y::b) (I f:Int)=O y:=by rw[<-l];exact Qv
  have v:idx (j++z::c) (I f:Int)=O z:=by rw[<-m];exact Qv
  have A:idx (k++w::d) (I f:Int)=O w:=by rw[<-n];exact Qv
  have e:=Im a b c d (f++[x]) (g++[y]) (j++[z]) (k++[w]) (o1++[sD x z]) (o2++[tf y w]) (by simpa using p) (by simpa using q) (by simpa using r) (by simp[l]) (by simp[m]) (by simp[n]) (by simp[s]) (by simp[t]) (by simp at hl |-;omega);rw[<-Qs,<-Qs,<-Qs,<-Qs]at e;have B:I f<=600:=by omega
  have C:app 8 o1 [if x<z then z else x]=O (o1++[sD x z]):=gn yA y9;have D:app 8 o2 [if w<y then w else y]=O (o2++[tf y w]):=gn yA y9;simp only[QX,ak,Qv,u,v,A,Qf,C,D,X8 hl,e,aX];simp
 |[],_::_,_,_,_,_,_,_,_,_,h,_,_,_,_,_,_,_,_=>by simp at h
 |[],_,_::_,_,_,_,_,_,_,_,_,h,_,_,_,_,_,_,_=>by simp at h
 |[],_,_,_::_,_,_,_,_,_,_,_,_,h,_,_,_,_,_,_=>by simp at h
 |_::_,[],_,_,_,_,_,_,_,_,h,_,_,_,_,_,_,_,_=>by simp at h
 |_::_,_,[],_,_,_,_,_,_,_,_,h,_,_,_,_,_,_,_=>by simp at h
 |_::_,_,_,[],_,_,_,_,_,_,_,_,h,_,_,_,_,_,_=>by simp at h
def P9{a b c d:fJ}(f:I b=I a)(j:I c=I a)(k:I d=I a)(hl:I a<=600):
  J7 (⟨a,b⟩,⟨c,d⟩)=O (if gm (Nac sD a c) (Nac tf b d)then(⟨Nac sD a c,Nac tf b d⟩,J)else(⟨[],[]⟩,U)):=by
 have e:=Im a b c d [] [] [] [] [] [] f j k rfl rfl rfl rfl rfl (by simpa using hl);simp only[jQ,jL,jJ]at e;have l:=sv (lo:=Nac sD a c) (hi:=Nac tf b d) yA yA;have g:¬((I a:Int)≠(I c:Int)):=by omega
 simp only[J7,g,ai,e,Qf,l];cases gm (Nac sD a c) (Nac tf b d)<;>rfl
def oc(p l:fJ)(k:Nat):(p++l).getD k 0=if k<I p then p.getD k 0 else l.getD (k - I p) 0:=by simp only[jB,jT];split <;>rfl
def sj{l:fJ}{k:Nat}(h:k<I l):l.take k++[l.getD k 0]=l.take (k+1):=by rw[List.take_add_one,jB,jC h];rfl
section
variable{p0 v2 p1:Qk}{i n:Nat}{out:List Qk}{LO HI:fJ}
theorem H4(hn:n<=600)(s:I p0.lo=n)(t:I p0.hi=n)(u:I v2.lo=n)(w:I v2.hi=n)(l1:I LO=n)(l2:I HI=n)(d:∀k,k<n->LO.getD k 0=if k<i then v2.lo.getD k 0 else p0.lo.getD k 0)(e:∀k,k<n->HI.getD k 0=if k=i then v2.lo.getD k 0 else if k<i then v2.hi.getD k 0 else p0.hi.getD k 0):∀(m k:Nat),k+m=n->
  Xy (p0,(i:Int),v2,out,p1,LO.take k,HI.take k,(k:Int))=O (LO,HI)
 |0,k,h=>by
  rw[Xy]
  have:¬((k:Int)<(I p0.lo:Int)):=by omega
  simp only[this,ai];rw[bk y9,bk y9]
 |m+1,k,h=>by
  rw[Xy];have lt:((k:Int)<(I p0.lo:Int)):=by omega
  have x:idx p0.lo (k:Int)=O (p0.lo.getD k 0):=by rw[gP y9];exact ky y9
  have y:idx p0.hi (k:Int)=O (p0.hi.getD k 0):=by rw[gP y9];exact ky y9
  have q:idx v2.lo (k:Int)=O (v2.lo.getD k 0):=by rw[gP y9];exact ky y9
  have z:idx v2.hi (k:Int)=O (v2.hi.getD k 0):=by rw[gP y9];exact ky y9
  have f:=H4 hn s t u w l1 l2 d e m (k+1) y9;have g:W ((k:Int)+1)=((k+1:Nat):Int):=pY y9;have q1:=d k y9;have q2:=e k y9
  have j:∀v,LO.getD k 0=v->app 8 (LO.take k) [v]=O (LO.take<|k+1):=λv l=>by rw[<-sj y9,<-l];exact gn yA y9
  have p:∀v,HI.getD k 0=v->app 8 (HI.take k) [v]=O (HI.take<|k+1):=λv l=>by rw[<-sj y9,<-l];exact gn yA y9
  simp only[lt,ak,x,y,Qf];by_cases c:k<i
  .have c1:(k:Int)<(i:Int):=by omega
   have c2:¬(k:Int)=(i:Int):=by omega
   rw[aj c]at q1;rw[ae (show¬k=i by omega),aj c]at q2;simp only[c1,ak,c2,ai,q,z,Qf,j6,j _ q1,p _ q2,g,f]
  .have c1:¬(k:Int)<(i:Int):=by omega
   rw[ae c]at q1;by_cases c2:k=i
   .have r:(k:Int)=(i:Int):=by omega
    rw[aj c2]at q2;subst c2;simp only[c1,ai,eq_self,ak,q,Qf,j _ q1,p _ q2,g,f]
   .have r:¬(k:Int)=(i:Int):=by omega
    rw[ae c2,ae c]at q2;simp only[c1,r,ai,Qf,j6,j _ q1,p _ q2,g,f]
theorem Ij(hn:n<=600)(s:I p0.lo=n)(t:I p0.hi=n)(u:I v2.lo=n)(w:I v2.hi=n)(l1:I LO=n)(l2:I HI=n)(d:∀k,k<n->LO.getD k 0=if k=i then v2.hi.getD k 0 else if k<i then v2.lo.getD k 0 else p0.lo.getD k 0)(e:∀k,k<n->HI.getD k 0=if k<i then v2.hi.getD k 0 else p0.hi.getD k 0):∀(m k:Nat),k+m=n->
  Xz (p0,(i:Int),v2,out,p1,LO.take k,HI.take k,(k:Int))=O (LO,HI)
 |0,k,h=>by
  rw[Xz]
  have:¬((k:Int)<(I p0.lo:Int)):=by omega
  simp only[this,ai];rw[bk y9,bk y9]
 |m+1,k,h=>by
  rw[Xz];have lt:((k:Int)<(I p0.lo:Int)):=by omega
  have x:idx p0.lo (k:Int)=O (p0.lo.getD k 0):=by rw[gP y9];exact ky y9
  have y:idx p0.hi (k:Int)=O (p0.hi.getD k 0):=by rw[gP y9];exact ky y9
  have z:idx v2.lo (k:Int)=O (v2.lo.getD k 0):=by rw[gP y9];exact ky y9
  have q:idx v2.hi (k:Int)=O (v2.hi.getD k 0):=by rw[gP y9];exact ky y9
  have f:=Ij hn s t u w l1 l2 d e m (k+1) y9;have g:W ((k:Int)+1)=((k+1:Nat):Int):=pY y9;have q1:=d k y9;have q2:=e k y9
  have j:∀v,LO.getD k 0=v->app 8 (LO.take k) [v]=O (LO.take<|k+1):=λv l=>by rw[<-sj y9,<-l];exact gn yA y9
  have p:∀v,HI.getD k 0=v->app 8 (HI.take k) [v]=O (HI.take<|k+1):=λv l=>by rw[<-sj y9,<-l];exact gn yA y9
  simp only[lt,ak,x,y,Qf];by_cases c:k<i
  .have c1:(k:Int)<(i:Int):=by omega
   have c2:¬(k:Int)=(i:Int):=by omega
   rw[aj c]at q2;rw[ae (show¬k=i by omega),aj c]at q1;simp only[c1,ak,c2,ai,z,q,Qf,j6,j _ q1,p _ q2,g,f]
  .have c1:¬(k:Int)<(i:Int):=by omega
   rw[ae c]at q2;by_cases c2:k=i
   .have r:(k:Int)=(i:Int):=by omega
    rw[aj c2]at q1;subst c2;simp only[c1,ai,eq_self,ak,q,Qf,j _ q1,p _ q2,g,f]
   .have r:¬(k:Int)=(i:Int):=by omega
    rw[ae c2,ae c]at q1;simp only[c1,r,ai,Qf,j6,j _ q1,p _ q2,g,f]
end
def Uq{p q r:fJ}{x y:Int}{t u:fJ}(h:I p=I q)(k:Nat):(p++x::t).getD k 0=if k<I q then(p++y::u).getD k 0 else(q++x::t).getD k 0:=by
 rw[oc,oc,oc,h];by_cases c:k<I q
 .simp only[c,ak]
 .simp only[c,ai]
def Uw{p q r:fJ}{x y z:Int}{t u v:fJ}(h:I p=I q)(d:I r=I q)(k:Nat):(p++x::t).getD k 0=if k=I q then(r++x::v).getD k 0 else if k<I q then(p++y::u).getD k 0 else(q++z::t).getD k 0:=by
 rw[oc,oc,oc,oc,h,d];by_cases c:k<I q
 .simp only[c,ak,ae (show¬k=I q by omega)]
 .by_cases c2:k=I q
  .subst c2;simp
  .simp only[c,ai,ae c2];obtain⟨j,e⟩:∃j,k - I q=j+1:=⟨k - I q - 1,by omega⟩;rw[e];rfl
def G0(p1:Qk):∀(al ah m l g j f e:fJ) (out:List Qk),I ah=I al->I m=I al->I l=I al->I j=I g->I f=I g->I e=I g->I g+I al<=600->I out<=2*I g->
  Xx (⟨g++al,j++ah⟩,⟨f++m,e++l⟩,p1,out,(I g:Int))=O (out++(((jl al ah m l).map λx=>(⟨f++x.1,e++x.2⟩:Qo)).filter l7).map Mt)
 |[],[],[],[],g,j,f,e,out,_,_,_,_,_,_,_,_=>by rw[Xx];simp only[Q1,ai];simp[jl]
 |a::al,b::ah,c::m,d::l,g,j,f,e,out,L,M,N,C,D,F,hl,G=>by
  rw[Xx];have g1:I ah=I al:=by simpa using L
  have P:I m=I al:=by simpa using M
  have Q:I l=I al:=by simpa using N
  have w:I g+(I al+1)<=600:=by simpa using hl
  have H:=λout=>H4 (p0:=⟨g++a::al,j++b::ah⟩) (v2:=⟨f++c::m,e++d::l⟩) (p1:=p1) (i:=I g) (n:=I g+(I al+1)) (out:=out) (LO:=f++a::al) (HI:=e++c::ah) w yB yA yA yA yA yA
   (λk _=>Uq (r:=[]) D k) (λk _=>by have:=Uw (p:=e) (q:=j) (r:=f) (x:=c) (y:=d) (z:=b) (t:=ah) (u:=l) (v:=m) y9 y9 k;rw[C]at this;exact this) (I g+(I al+1)) 0 y9
  have E:=λout=>Ij (p0:=⟨g++a::al,j++b::ah⟩) (v2:=⟨f++c::m,e++d::l⟩) (p1:=p1) (i:=I g) (n:=I g+(I al+1)) (out:=out) (LO:=f++d::al) (HI:=e++b::ah) w yB yA yA yA yA yA
   (λk _=>Uw D F k) (λk _=>by have:=Uq (p:=e) (q:=j) (r:=[]) (x:=b) (y:=d) (t:=ah) (u:=l) y9 k;rw[C]at this;exact this) (I g+(I al+1)) 0 y9
  simp only[List.take_zero,jJ]at H E;have R:=sv (lo:=f++a::al) (hi:=e++c::ah) yA yA;have K:=sv (lo:=f++d::al) (hi:=e++b::ah) yA yA;have A:=λout (G:I out<=2*I (g++[a]))=>G0 p1 al ah m l (g++[a]) (j++[b]) (f++[c]) (e++[d]) out g1 P Q (by simp[C]) (by simp[D]) (by simp[F]) yA G
  simp only[<-Qs]at A
  have S:((jl (a::al) (b::ah) (c::m) (d::l)).map λx=>(⟨f++x.1,e++x.2⟩:Qo))=⟨f++a::al,e++c::ah⟩::⟨f++d::al,e++b::ah⟩::((jl al ah m l).map λx=>(⟨f++c::x.1,e++d::x.2⟩:Qo)):=by rw[jl,zV,zV,zG];rfl
  rw[S];simp only[QX,ak,H,Qf,R];by_cases B:gm (f++a::al) (e++c::ah)=J
  .rw[aO (show l7 ⟨f++a::al,e++c::ah⟩=J from B)];simp only[B,aF,ak];rw[gn yA y9,Qf,Qf];simp only[E,Qf,K];by_cases s:gm (f++d::al) (e++b::ah)=J
   .rw[aO (show l7 ⟨f++d::al,e++b::ah⟩=J from s)];simp only[s,aF,ak];rw[gn yA y9,Qf,Qf,X8 hl,A _ yA];simp[Mt]
   .rw[aP (show¬l7 ⟨f++d::al,e++b::ah⟩=J from s)];simp only[(aS _).mp s,cT,jO,ai,Qf];rw[X8 hl,A _ yA];simp[Mt]
  .rw[aP (show¬l7 ⟨f++a::al,e++c::ah⟩=J from B)];simp only[(aS _).mp B,cT,jO,ai,Qf,E,K];by_cases s:gm (f++d::al) (e++b::ah)=J
   .rw[aO (show l7 ⟨f++d::al,e++b::ah⟩=J from s)];simp only[s,aF,ak];rw[gn yA y9,Qf,Qf,X8 hl,A _ yA];simp[Mt]
   .rw[aP (show¬l7 ⟨f++d::al,e++b::ah⟩=J from s)];simp only[(aS _).mp s,cT,jO,ai,Qf];rw[X8 hl,A _ yA]
 |[],_::_,_,_,_,_,_,_,_,h,_,_,_,_,_,_,_=>by simp at h
 |[],_,_::_,_,_,_,_,_,_,_,h,_,_,_,_,_,_=>by simp at h
 |[],_,_,_::_,_,_,_,_,_,_,_,h,_,_,_,_,_=>by simp at h
 |_::_,[],_,_,_,_,_,_,_,h,_,_,_,_,_,_,_=>by simp at h
 |_::_,_,[],_,_,_,_,_,_,_,h,_,_,_,_,_,_=>by simp at h
 |_::_,_,_,[],_,_,_,_,_,_,_,h,_,_,_,_,_=>by simp at h
def vw:∀{s e g:fJ},jv s e g->gm e g=J->gm (Nab (I s) 0) s=J
 |[],[],[],_,_=>rfl
 |n::s,c::e,d::g,h,f=>by obtain⟨⟨k1,k2,k3⟩,j⟩:=h;rw[gm,jE,zE]at f;rw[zH,aB,gm,vw j f.2,decide_eq_true (show(0:Int)<n by omega)];rfl
 |[],_::_,_,h,_=>by simp[jv]at h
 |[],[],_::_,h,_=>by simp[jv]at h
 |_::_,[],_,h,_=>by simp[jv]at h
 |_::_,_::_,[],h,_=>by simp[jv]at h
def IT{s s0 st:fJ}(h0:∀n∈s,0<=n)(A:I s<=600)(e0:I s0=I s)(hst:I st=I s):
  Ud (⟨Nab (I s) 0,s⟩,⟨xy (Nab (I s) 0) st,yu s0 s st⟩)=O ((oN s (tg (Nab (I s) 0) s st)<|ti (Nab (I s) 0) s0 s st).map Mt):=by
 have k:I (Nab (I s) (0:Int))=I st:=by simp[hst]
 have l:=pk (lo:=Nab (I s) 0) (hi:=s0) (t:=s) (st:=st) k hst.symm y9 h0;obtain⟨u,w⟩:=Cz (lo:=Nab (I s) 0) (hi:=s0) (t:=s) (st:=st) k hst.symm y9 h0;obtain⟨x,y⟩:=Gz (lo:=Nab (I s) 0) (hi:=s0) (s:=s) (st:=st) k hst.symm y9;have B:=Bp k;have C:=BS (hi:=s0) (t:=s) (st:=st) y9 y9;have z:=sv (lo:=Nab (I s) 0) (hi:=s) yB yA;have v:=P9 (a:=Nab (I s) 0) (b:=s) (c:=xy (Nab (I s) 0) st) (d:=yu s0 s st) yB yA yA yA;rw[x,y]at v;have m:gm (tg (Nab (I s) 0) s st) (ti (Nab (I s) 0) s0 s st)=J->gm (Nab (I s) 0) s=J:=vw l;unfold oN;simp only[Ud,z,Qf]
 by_cases j:gm (Nab (I s) 0) s=J
 .simp only[j,aF,j6,ai,v,Qf];by_cases f:gm (xy (Nab (I s) 0) st) (yu s0 s st)=J
  .obtain⟨q1,q2⟩:=w f;have g:=f;rw[u]at g;simp only[f,g,ak,Qf,jO,ai];rw[q1,q2];have p:I (tg (Nab (I s) 0) s st)=I s:=by rw[<-q1];omega
   have q:I (ti (Nab (I s) 0) s0 s st)=I s:=by rw[<-q2];omega
   have e:=G0 ⟨tg (Nab (I s) 0) s st,ti (Nab (I s) 0) s0 s st⟩ (Nab (I s) 0) s (tg (Nab (I s) 0) s st) (ti (Nab (I s) 0) s0 s st) [] [] [] [] [] yB (by simpa using p) (by simpa using q) rfl rfl rfl yA yB;simp only[jQ,jL,jJ]at e;simp only[e,Qf]
  .have g:=f;rw[u]at g;have r:l7 ⟨Nab (I s) 0,s⟩=J:=j;simp only[f,g,ai,Qf,j6,ak,aO r];rfl
 .have g:¬gm (tg (Nab (I s) 0) s st) (ti (Nab (I s) 0) s0 s st)=J:=λh=>j<|m h
  have r:¬l7 ⟨Nab (I s) 0,s⟩=J:=j;simp only[(aS _).mp j,cT,ak,g,j6,ai,aP r];rfl
def GJ{r:Nat}(D:r<=600)(p0:List Qc)(i:Int)(x:Qa)(v:idx p0 i=O (gK x))(p1:fJ)(q:List Qc):∀(st ts l h c d f g o1 o2:fJ) (a:Qj),la r a->x.box.lo=f++l->x.box.hi=g++h->I ts=I st->I l=I st->I h=I st->I d=I c->I f=I c->I g=I c->I o1=I c->I o2=I c->I c+I st<=r->
  YO (d++ts,p0,i,c++st,p1,q,(kA a).bx,(kA a).bc,(kA a).ek,(kA a).bm,(kA a).ed,(kA a).dk,(kA a).ep,o1,o2,(I c:Int))=O ((kA<|lj a (I c) st).bx,(kA<|lj a (I c) st).bc,(kA<|lj a (I c) st).ek,(kA<|lj a (I c) st).bm,(kA<|lj a (I c) st).ed,(kA<|lj a (I c) st).dk,(kA<|lj a (I c) st).ep,o1++xy l st,o2++yu h ts st)
 |[],[],[],[],c,d,f,g,o1,o2,a,hw,j,k,w,y,z,m,p,s,A,B,hl=>by
  rw[YO]
  have:¬((I c:Int)<(I (d++([]:fJ)):Int)):=by simp;omega
  rw[ae this,xy,yu,jV,jV];rfl
  all_goals simp
 |n::st,t::ts,l::lo,h::hi,c,d,f,g,o1,o2,a,hw,j,k,w,y,z,m,p,s,A,B,hl=>by
  rw[YO];have u:I c<r:=by simp at hl;omega
  have E:((I c:Int)<(I (d++t::ts):Int)):=by simp;omega
  have F:idx (gK x).box.lo (I c:Int)=O l:=by show idx x.box.lo _=_;rw[j,<-p];exact Qv
  have G:idx (gK x).box.hi (I c:Int)=O h:=by show idx x.box.hi _=_;rw[k,<-s];exact Qv
  have H:idx (d++t::ts) (I c:Int)=O t:=by rw[<-m];exact Qv
  have C:=GJ D p0 i x v p1 q st ts lo hi (c++[n]) (d++[t]) (f++[l]) (g++[h]) (o1++[if W (l - n)<0 then 0 else W (l - n)]) (o2++[if t<W (h - n)then t else W (h - n)]) (mw a (I c) n) (rq hw) (by rw[j,Qs]) (by rw[k,Qs]) (by simpa using w) (by simpa using y) (by simpa using z) (by simp[m]) (by simp[p]) (by simp[s]) (by simp[A]) (by simp[B]) (by simp at hl |-;omega);rw[<-Qs,<-Qs]at C;have e:YX (⟨(kA a).bx,(kA a).bc,(kA a).ek,(kA a).bm,(kA a).ed,(kA a).dk,(kA a).ep⟩,(I c:Int),n)=O (kA<|mw a (I c) n):=BK n hw u;have K:app 8 o1 [if W (l - n)<0 then 0 else W (l - n)]=O (o1++[if W (l - n)<0 then 0 else W (l - n)]):=gn yA y9
  have L:app 8 o2 [if t<W (h - n)then t else W (h - n)]=O (o2++[if t<W (h - n)then t else W (h - n)]):=gn yA y9;have M:W ((I c:Int)+1)=(I (c++[n]):Int):=jq y9;simp only[E,ak,v,F,G,H,Qv,Qf,K,L,e,M,C,lj,xy,yu];simp
 |[],_::_,_,_,_,_,_,_,_,_,_,_,_,_,h,_,_,_,_,_,_,_,_=>by simp at h
 |[],_,_::_,_,_,_,_,_,_,_,_,_,_,_,_,h,_,_,_,_,_,_,_=>by simp at h
 |[],_,_,_::_,_,_,_,_,_,_,_,_,_,_,_,_,h,_,_,_,_,_,_=>by simp at h
 |_::_,[],_,_,_,_,_,_,_,_,_,_,_,_,h,_,_,_,_,_,_,_,_=>by simp at h
 |_::_,_,[],_,_,_,_,_,_,_,_,_,_,_,_,h,_,_,_,_,_,_,_=>by simp at h
 |_::_,_,_,[],_,_,_,_,_,_,_,_,_,_,_,_,h,_,_,_,_,_,_=>by simp at h
def Hq(q:List Qc):∀(st ts h c d e o1 o2:fJ),I ts=I st->I h=I st->I d=I c->I e=I c->I o1=I c->I o2=I c->I c+I st<=600->
  Xf (d++ts,c++st,e++h,q,o1,o2,(I c:Int))=O (o1++xy (Nab (I st) 0) st,o2++yu h ts st)
 |[],[],[],c,d,e,o1,o2,j,k,f,g,l,m,hl=>by
  rw[Xf]
  have:¬((I c:Int)<(I (d++([]:fJ)):Int)):=by simp;omega
  rw[ae this];simp[xy,yu]
 |n::st,t::ts,h::hi,c,d,e,o1,o2,j,k,f,g,l,m,hl=>by
  rw[Xf];have r:I c<600:=by simp at hl;omega
  have s:((I c:Int)<(I (d++t::ts):Int)):=by simp;omega
  have u:idx (e++h::hi) (I c:Int)=O h:=by rw[<-g];exact Qv
  have v:idx (d++t::ts) (I c:Int)=O t:=by rw[<-f];exact Qv
  have p:=Hq q st ts hi (c++[n]) (d++[t]) (e++[h]) (o1++[if W (0 - n)<0 then 0 else W (0 - n)]) (o2++[if t<W (h - n)then t else W (h - n)]) (by simpa using j) (by simpa using k) (by simp[f]) (by simp[g]) (by simp[l]) (by simp[m]) (by simp at hl |-;omega);rw[<-Qs,<-Qs,<-Qs]at p;have w:app 8 o1 [if W (0 - n)<0 then 0 else W (0 - n)]=O (o1++[if W (0 - n)<0 then 0 else W (0 - n)]):=gn yA y9;have x:app 8 o2 [if t<W (h - n)then t else W (h - n)]=O (o2++[if t<W (h - n)then t else W (h - n)]):=gn yA y9;have y:W ((I c:Int)+1)=(I (c++[n]):Int):=jq y9;simp only[s,ak,u,v,Qv,Qf,w,x,y,p,xy,yu,zH,aB];simp
 |[],_::_,_,_,_,_,_,_,h,_,_,_,_,_,_=>by simp at h
 |[],_,_::_,_,_,_,_,_,_,h,_,_,_,_,_=>by simp at h
 |_::_,[],_,_,_,_,_,_,h,_,_,_,_,_,_=>by simp at h
 |_::_,_,[],_,_,_,_,_,_,h,_,_,_,_,_=>by simp at h
section
variable{P:Qa->Prop}{s s0 st:fJ}
theorem HT(k:I s<=600)(hn:∀n∈s,0<=n)(e0:I s0=I s)(hst:I st=I s)(p1:fJ):∀(l p out:List Qa),I p+I l<=50000->I out<=I p->(∀z∈out,I z.box.lo=I s)->(∀x∈l,jv s0 x.box.lo x.box.hi/\la (I s0) x.be)->
  YN ((p++l).map gK,s,st,p1,out.map gK,(I p:Int))=O (((l.map<|mL s st).foldl js out).map gK)
 |[],p,out,h,w,d,hw=>by
  rw[YN]
  have:¬((I p:Int)<(I ((p++[]).map gK):Int)):=by simp
  simp only[this,ai];rfl
 |x::l,p,out,h,w,d,hw=>by
  rw[YN];obtain⟨A,B⟩:=hw x (jM ..);obtain⟨l1,l2⟩:=jb A;have C:((I p:Int)<(I ((p++x::l).map gK):Int)):=by simp;omega
  have m:idx ((p++x::l).map gK) (I p:Int)=O (gK x):=kH yB;have e:=pk (lo:=x.box.lo) (hi:=x.box.hi) (t:=s) (st:=st) y9 y9 y9 hn;have f:(mL s st x).box.lo.length=I s:=(jb e).1;have D:I p<=50000:=by simp at h;omega
  have q:=HT k hn e0 hst p1 l (p++[x]) (js out<|mL s st x) (by simp at h |-;omega) (by have:=oW out (mL s st x);simp;omega) (rS d f) (λy E=>hw y<|jG _ E);rw[<-Qs]at q;have F:W ((I p:Int)+1)=(I (p++[x]):Int):=jq y9;have u:=GJ (r:=I s0) y9 ((p++x::l).map gK) (I p:Int) x m p1 (out.map gK) st s x.box.lo x.box.hi [] [] [] [] [] [] x.be B rfl rfl y9 y9 y9 rfl rfl rfl rfl rfl yA;simp only[jQ,jL,jJ]at u;obtain⟨v,G⟩:=Cz (lo:=x.box.lo) (hi:=x.box.hi) (t:=s) (st:=st) y9 y9 y9 hn
  have H:Zo (out.map gK,⟨⟨xy x.box.lo st,yu x.box.hi s st⟩,kA<|lj x.be 0 st⟩)=O ((js out<|mL s st x).map gK):=by
   refine rn (n:=I s) k y9 d ⟨?_,?_⟩ v λK=>?_
   .show(xy x.box.lo st).length=_;rw[Bp y9];omega
   .show(yu x.box.hi s st).length=_;rw[BS y9 y9];omega
   .have c:gm (tg x.box.lo s st) (ti x.box.lo x.box.hi s st)=J:=K;rw[<-v]at c;obtain⟨q1,q2⟩:=G c;rw[q1,q2];rfl
  have g:Zo (out.map gK,⟨⟨xy x.box.lo st,yu x.box.hi s st⟩,⟨(kA<|lj x.be 0 st).bx,(kA<|lj x.be 0 st).bc,(kA<|lj x.be 0 st).ek,(kA<|lj x.be 0 st).bm,(kA<|lj x.be 0 st).ed,(kA<|lj x.be 0 st).dk,(kA<|lj x.be 0 st).ep⟩⟩)=O ((js out<|mL s st x).map gK):=H;have j:YO (s,(p++x::l).map gK,(I p:Int),st,p1,out.map gK,(gK x).be.bx,(gK x).be.bc,(gK x).be.ek,(gK x).be.bm,(gK x).be.ed,(gK x).be.dk,(gK x).be.ep,[],[],0)=_:=u;simp only[C,ak,m,Qf,j,g,F,q,zV,aY]
theorem HF(e:I s<=600)(f v2:fJ):∀(l p:List Qo) (out:List Qa),I p+I l<=20000->I out<=I p+30000->(∀z∈out,I z.box.lo=I s)->(∀b∈l,jv s b.lo b.hi)->
  Xg ((p++l).map Mt,f,v2,out.map gK,(I p:Int))=O (((l.map ll).foldl js out).map gK)
 |[],p,out,h,j,c,hw=>by
  rw[Xg]
  have:¬((I p:Int)<(I ((p++[]).map Mt):Int)):=by simp
  simp only[this,ai];rfl
 |b::l,p,out,h,j,c,hw=>by
  rw[Xg];obtain⟨l1,l2⟩:=jb (hw b<|jM ..);have k:((I p:Int)<(I ((p++b::l).map Mt):Int)):=by simp;omega
  have m:idx ((p++b::l).map Mt) (I p:Int)=O (Mt b):=kH yB;have q:I p<=20000:=by simp at h;omega
  have d:(ll b).box.lo.length=I s:=l1;have g:=HF e f v2 l (p++[b]) (js out<|ll b) (by simp at h |-;omega) (by have:=oW out (ll b);simp;omega) (rS c d) (λy r=>hw y<|jG _ r);rw[<-Qs]at g;have t:W ((I p:Int)+1)=(I (p++[b]):Int):=jq y9;have u:Zo (out.map gK,⟨Mt b,⟨1,0,0,[],0,0,0⟩⟩)=O ((js out<|ll b).map gK):=rn (x:=ll b) (n:=I s) e y9 c ⟨l1,l2⟩ rfl λ_=>rfl
  simp only[k,ak,m,Qf,u,t,g,zV,aY]
theorem Cv{l out:List Qa}:I (l.foldl js out)<=I l+I out:=by rw[(lL l out).length_eq,jW];have:=cR gA l;omega
theorem Ef{l out:List Qa}{n:Nat}(c:∀z∈l,I z.box.lo=n)(d:∀z∈out,I z.box.lo=n):∀z∈l.foldl js out,I z.box.lo=n:=λz e=>by
 rcases aU.1 ((lL l out).mem_iff.1 e)with h|h
 .exact c z (bp.1 h).1
 .exact d z h
theorem Oq{l:List Qa}{Q:Qa->Prop}(h:Inv P s0 l)(e:fY s0=0)(f:fQ s0<=20000)(hc:fY s=0)(e0:I s0=I s)(hst:I st=I s)(q:E2 Q s (yr s0 s st l)):
  Ve (l.map gK,s0,s,st)=O ((iY<|(yr s0 s st l).filter gA).map gK):=by
 obtain⟨B,C,r⟩:=fT hc;have u:=h.pb e f;have hn:∀n∈s,0<=n:=λn hn=>(r n hn).1
 have v:=HT (s:=s) (s0:=s0) (st:=st) y9 hn e0 hst s0 l [] [] (by simpa using by omega) yB (λz c=>by simp at c) (λx d=>⟨h.wk x d,h.acc x d⟩);have g:YN (l.map gK,s,st,s0,[],0)=O (((l.map<|mL s st).foldl js []).map gK):=v;have m:=Hq (((l.map<|mL s st).foldl js []).map gK) st s s0 [] [] [] [] [] y9 y9 rfl rfl rfl rfl yA;simp only[jQ,jL,jJ,hst]at m;have w:JJ s=O ⟨Nab (I s) 0,s⟩:=by simp only[JJ,Cu (show I s<=600 by omega),Qf]
 have y:=IT (s:=s) (s0:=s0) (st:=st) hn y9 e0 hst;have j:=pk (lo:=Nab (I s) 0) (hi:=s0) (t:=s) (st:=st) (by simp[hst]) hst.symm y9 hn;have A:=D4 s (tg (Nab (I s) 0) s st) (ti (Nab (I s) 0) s0 s st)
 have p:=HF (s:=s) y9 (xy (Nab (I s) 0) st) (yu s0 s st) (oN s (tg (Nab (I s) 0) s st)<|ti (Nab (I s) 0) s0 s st) [] ((l.map<|mL s st).foldl js []) yA (by have:=Cv (l:=l.map (mL s st)) (out:=[]);simp at this |-;omega)
  (Ef (λz c=>by obtain⟨x,d,rfl⟩:=aq.1 c;obtain⟨l1,l2⟩:=jb (h.wk x d);exact(jb<|pk (lo:=x.box.lo) (hi:=x.box.hi) (t:=s) (st:=st) y9 y9 y9 hn).1) (λz c=>by simp at c)) (BV hn j)
 simp only[jQ,jL,jJ]at p;have k:=rh q.v7;unfold yr at k |-;rw[dq]at k;simp only[Ve,g,Qf,m,w,y,p,k]
end
def Mh(p:fJ)(i:Nat)(n:Int)(hi:idx p (i:Int)=O n)(out:List fJ)(k:Nat)(a:fJ)(c:idx out (k:Int)=O a)(f:I a<=1000)(base:List fJ):
  ∀(m j:Nat),j+m=n.toNat->I base+n.toNat<=1000000->Jl (p,(i:Int),out,(k:Int),base++((Nad j).map λ(x:Nat)=>a++[(x:Int)]),(j:Int))=O (base++EL n a)
 |0,j,d,e=>by
  rw[Jl]
  have:¬((j:Int)<n):=by omega
  simp only[hi,Qf,this,ai];rw[EL,<-d];rfl
 |m+1,j,d,e=>by
  rw[Jl];have g:((j:Int)<n):=by omega
  have l:=Mh p i n hi out k a c f base m (j+1) y9 e;have w:W ((j:Int)+1)=((j+1:Nat):Int):=Sl y9;have q:app 8 ([]:fJ) a=O a:=by rw[gn yA y9];rfl
  have r:app 8 a [(j:Int)]=O (a++[(j:Int)]):=gn yA y9
  have s:app 24 (base++((Nad j).map λ(x:Nat)=>a++[(x:Int)])) [a++[(j:Int)]]=O (base++((Nad<|j+1).map λ(x:Nat)=>a++[(x:Int)])):=by rw[gn yA y9,dC];simp
  simp only[hi,Qf,g,ak,c,q,r,s,w,l]
def NR(p:fJ)(i:Nat)(n:Int)(hi:idx p (i:Int)=O n):∀(s q:List fJ),(∀a∈s,I a<=1000)->(I (q++s)+1)*(max n.toNat 1)<=1000000->
  XN (q++s,p,(i:Int),qK q n,(I q:Int))=O (qK (q++s) n)
 |[],q,d,c=>by rw[XN];simp only[jV,Int.lt_irrefl,ai]
 |a::s,q,d,c=>by
  rw[XN];have V:I (q++a::s)+1<=1000000:=jX (aQ _ y9) c
  have g:I (qK q n)+n.toNat<=1000000:=by
   rw[xH];have j:I q*n.toNat+n.toNat=(I q+1)*n.toNat:=by rw[av,bA]
   rw[j];refine jX (dL ?_ ?_) c
   .simp
   .omega
  have e:=Mh p i n hi (q++a::s) (I q) a Qv (d a<|jM ..) (qK q n) n.toNat 0 y9 g;have f:=NR p i n hi s (q++[a]) (λx k=>d x<|jG _ k) (by rw[<-Qs];exact c);rw[<-Qs]at f;simp only[List.range_zero,aH,jV,jJ]at e;have l:qK (q++[a]) n=qK q n++EL n a:=by unfold qK;rw[df];simp
  simp only[QX,ak,e,Qf,kQ<|hZ (show(q++a::s).length<=1000000 by omega),<-l,f]
def Lr:∀(s p:fJ) (out:List fJ),I (p++s)<=900->(∀a∈out,I a=I p)->(I out+1)*pm s<=500000->XM (p++s,out,(I p:Int))=O (s.foldl qK out)
 |[],p,out,c,f,d=>by rw[XM];simp only[Q1,ai,fe]
 |n::s,p,out,c,f,d=>by
  rw[XM];have k:=NQ s;rw[pm,<-Nat.mul_assoc]at d;have b1:(I out+1)*max n.toNat 1<=500000:=jX (aQ _ k) d;have e:XN (out,p++n::s,(I p:Int),[],0)=O (qK out n):=NR (p++n::s) (I p) n Qv out [] (λa g=>by have:=f a g;simp at c;omega) (jX b1 y9)
  have j:=Lr s (p++[n]) (qK out n) (by rw[<-Qs];exact c) (λa g=>by rw[Et f a g];simp) (by refine jX (au _ ?_) d;rw[xH,av,bA];have:=fB (I out) (show n.toNat<=max n.toNat 1 by omega);omega)
  rw[<-Qs]at j;simp only[QX,ak,e,Qf,kQ<|hZ c,j,aY]
def Nq{s:fJ}(c:I s<=900)(h:pm s<=250000):ZZ s=O (iF s):=by have e:XM (s,[[]],0)=O (s.foldl qK [[]]):=Lr s [] [[]] c yB (by simpa using by omega);simp only[ZZ,e,Qf,Py]
def KC{m:Int}{s:fJ}(h:uJ m s)(V:1<=m/\m<=2500):ZZ s=O (iF s):=Nq (by have:=h.1;omega) (by have:=MM h V.1;omega)
def Iw:∀(s t p q:fJ) (x:Int),I p=I q->I (p++s)<=1000->I (q++t)<=1000->XO (p++s,q++t,x,(I p:Int))=O (nD s t x)
 |[],t,p,q,x,h,c,d=>by rw[XO];simp only[Q1,ai,Qf,j6,nD]
 |a::s,[],p,q,x,h,c,d=>by
  rw[XO]
  have:¬((I p:Int)<(I (q++([]:fJ)):Int)):=by simp;omega
  simp only[QX,ak,this,y5,Qf,j6,ai,nD]
 |a::s,b::t,p,q,x,h,c,d=>by
  rw[XO];have f:((I p:Int)<(I (q++b::t):Int)):=by simp;omega
  have g:idx (q++b::t) (I p:Int)=O b:=by rw[h];exact Qv
  have e:=Iw s t (p++[a]) (q++[b]) (W<|x+W (a*b)) (by simp[h]) (by simpa using c) (by simpa using d);rw[<-Qs,<-Qs]at e;have w:W ((I p:Int)+1)=(I (p++[a]):Int):=kQ (hZ c);simp only[QX,ak,f,decide_true,Qf,Qv,g,w,e,nD]
def wu{a b:fJ}(c:I a<=1000)(d:I b<=1000):T4 (a,b)=O (nD a b 0):=by have e:=Iw a b [] [] 0 rfl (by simpa using c) (by simpa using d);simp only[jQ,jL,jJ]at e;unfold T4;simp only[e,Qf]
def oY(c:Qi):Prop:=(0<=c.bc/\c.bc<=100000)/\(0<=c.offset/\c.offset<=200)/\(c.fill=J->c.bc=0/\c.offset=0)
def oT(c:Qi):QC:=⟨c.fill,c.bc,c.offset⟩
def ce(l:List Qi)(i:Nat):Qi:=l.getD i ⟨U,0,0⟩
def uv(l:List Qi)(a:Nat):Int:=if a+1<I l/\(ce l a).fill=U/\(ce l<|a+1).fill=U/\(ce l<|a+1).bc=(ce l a).bc then(ce l<|a+1).offset - (ce l a).offset else 0
def rL(c:Qi)(st:Int)(k:Nat):Qi:=if c.fill=J then⟨J,0,0⟩else⟨U,c.bc,c.offset+k*st⟩
def A6(a b:Qi):Bool:=a.fill==b.fill &&(a.bc==b.bc &&a.offset==b.offset)
def sc{a b:Qi}:A6 a b=J↔a=b:=by obtain⟨f,x,y⟩:=a;obtain⟨g,z,w⟩:=b;simp[A6]
def GH(l:List Qi)(a k:Nat):Bool:=A6 (ce l<|a+k) (rL (ce l a) (uv l a) k)
def ext(l:List Qi)(a:Nat):Nat->Nat->Nat
 |0,n=>n
 |f+1,n=>if GH l a n=J then ext l a f (n+1)else n
def ou(l:List Qi)(a:Nat):Nat:=ext l a (I l - (a+1)) 1
def Ny(l:List Qi)(a:Nat):Qq:=⟨a,ou l a,(ce l a).fill,(ce l a).bc,(ce l a).offset,uv l a⟩
def H7(l:List Qi):Nat->Nat->List Qq
 |0,_=>[]
 |f+1,a=>if a<I l then Ny l a::H7 l f (a+ou l a)else[]
def gQ(r:Qq):Qw:=⟨r.er,r.len,r.fill,r.bc,r.offset,r.dk⟩
def F9(l:List Qi)(a:Nat):∀f n,n<=ext l a f n/\ext l a f n<=n+f
 |0,n=>⟨j7 _,j7 _⟩
 |f+1,n=>by
  rw[ext];split
  .have:=F9 l a f (n+1);omega
  .omega
def Ca(l:List Qi)(a:Nat):∀f n k,n<=k->k<ext l a f n->GH l a k=J
 |0,n,k,d,c=>by rw[ext]at c;omega
 |f+1,n,k,d,c=>by
  rw[ext]at c;split at c
  .rename_i h;by_cases e:n=k
   .subst e;exact h
   .exact Ca l a f (n+1) k y9 c
  .omega
def Cq{l:List Qi}{a:Nat}(h:a<I l):1<=ou l a/\a+ou l a<=I l:=by have:=F9 l a (I l - (a+1)) 1;unfold ou;omega
def vd{l:List Qi}{i:Nat}(h:i<I l):idx l (i:Int)=O (ce l i):=by rw[ky h];simp[ce,h]
def QjJ{l:List Qi}{i:Nat}(h:i<I l):idx (l.map oT) (i:Int)=O (oT<|ce l i):=by rw[ky (by simpa using h)];simp[ce,h]
def nc{l:List Qi}{i:Nat}(h:i<I l):ce l i∈l:=by simp[ce,h]
def RO{l:List Qi}(hc:∀c∈l,oY c)(a:Nat)(d:a<I l):-200<=uv l a/\uv l a<=200:=by
 unfold uv;split
 .rename_i h;have e:=(hc _<|nc d).2.1;have f:=(hc _<|nc h.1).2.1;omega
 .omega
def qR{a b A B:Int}(g:-A<=a)(j:a<=A)(k:-B<=b)(l:b<=B):-(A*B)<=a*b/\a*b<=A*B:=by
 have m:0<=A:=by omega
 have hB:0<=B:=by omega
 have c:0<=(A - a)*(B+b):=cj y9 y9;have d:0<=(A+a)*(B - b):=cj y9 y9;have e:0<=(A - a)*(B - b):=cj y9 y9;have f:0<=(A+a)*(B+b):=cj y9 y9;simp only[eY,cr,eX,dP]at c d e f;constructor <;>omega
def P6(r:Qw)(c:Qi)(k:Nat)(n:k<=600)(f:r.fill=c.fill)(g:r.bc=c.bc)(j:r.offset=c.offset)(p:0<=c.offset/\c.offset<=200)(d:-200<=r.dk/\r.dk<=200):
  Uh (r,(k:Int))=O (oT<|rL c r.dk k):=by
 unfold Uh rL;dsimp only;rw[f];by_cases e:c.fill=J
 .simp only[e,ak];rfl
 .have:=qR (a:=(k:Int)) (b:=r.dk) (A:=600) (B:=200) y9 y9 d.1 d.2;have l:W ((k:Int)*r.dk)=k*r.dk:=gE y9 y9;have m:W (r.offset+k*r.dk)=c.offset+k*r.dk:=by rw[j];exact gE y9 y9
  simp only[e,ai,l,m,g];rfl
def mM(a b:Qi):(!(((oT a).fill==(oT b).fill) &&(((oT a).bc==(oT b).bc) &&(((oT a).offset==(oT b).offset) &&J))))=!A6 a b:=by simp[A6,oT]
def LX{l:List Qi}{a:Nat}(e:a<I l)(hc:∀c∈l,oY c):Vd ((l.drop a).map oT,(a:Int))=O ⟨a,1,(ce l a).fill,(ce l a).bc,(ce l a).offset,uv l a⟩:=by
 have j:l.drop a=ce l a::l.drop (a+1):=by rw[bd e];simp[ce,e]
 unfold Vd;have h0:idx ((l.drop a).map oT) 0=O (oT<|ce l a):=by rw[j];rfl
 simp only[h0,Qf];by_cases h:a+1<I l
 .have f:l.drop (a+1)=ce l (a+1)::l.drop (a+2):=by rw[bd h];simp[ce,h]
  have m:idx ((l.drop a).map oT) 1=O (oT<|ce l<|a+1):=by rw[j,f];rfl
  have hl:(I ((l.drop a).map oT):Int)>1:=by simp;omega
  simp only[hl,ak,Qf,m];have b1:=(hc _<|nc e).2.1;have b2:=(hc _<|nc h).2.1;have n:W ((oT<|ce l<|a+1).offset - (oT<|ce l a).offset)=(ce l<|a+1).offset - (ce l a).offset:=gE (by simp[oT];omega) (by simp[oT];omega);rw[n];unfold uv;by_cases d:(ce l a).fill=J
  .simp[oT,d]
  .by_cases g:(ce l<|a+1).fill=J
   .simp[oT,d,g]
   .by_cases k:(ce l<|a+1).bc=(ce l a).bc
    .simp[oT,d,g,k,h]
    .simp[oT,d,g,k]
 .have hl:¬((I ((l.drop a).map oT):Int)>1):=by simp;omega
  simp only[hl,ai,Qf];simp[oT,uv,h]
def Lu{l:List Qi}(hl:I l<=600)(hc:∀c∈l,oY c){a:Nat}(e:a<I l)(out:List Qw)(s:I out<=600)(r:Qw)(g:r=⟨a,1,(ce l a).fill,(ce l a).bc,(ce l a).offset,uv l a⟩):
  ∀(f n:Nat),1<=n->a+n+f=I l->JD (l.map oT,r,out,(n:Int),((a+n - 1:Nat):Int))=O (((ext l a f n:Nat):Int),out++[(⟨a,((ext l a f n:Nat):Int),(ce l a).fill,(ce l a).bc,(ce l a).offset,uv l a⟩:Qw)],((a+ext l a f n:Nat):Int))
 |0,n,t,u=>by
  rw[JD];have j:W (((a+n - 1:Nat):Int)+1)=((a+n:Nat):Int):=by rw[pY y9];omega
  have k:(((a+n:Nat):Int)=(I (l.map oT):Int)):=by simp;omega
  subst g;simp only[j,k,ak,Qf,ext];rw[gn yA y9,Qf]
 |f+1,n,t,u=>by
  rw[JD];have j:W (((a+n - 1:Nat):Int)+1)=((a+n:Nat):Int):=by rw[pY y9];omega
  have k:¬(((a+n:Nat):Int)=(I (l.map oT):Int)):=by simp;omega
  have m:a+n<I l:=by omega
  have hst:=RO hc a e;have p:=(hc _<|nc e).2.1;have d:=P6 (⟨a,(n:Int),(ce l a).fill,(ce l a).bc,(ce l a).offset,uv l a⟩:Qw) (ce l a) n y9 rfl rfl rfl p hst;have v:=Lu hl hc e out s r g f (n+1) y9 y9;subst g;simp only[j,k,ai,QjJ m,Qf,d,mM];have V:GH l a n=A6 (ce l<|a+n) (rL (ce l a) (uv l a) n):=rfl;rw[ext];rw[<-V];cases w:GH l a n with
  |true=>
   simp only[aF,j6,ai,ak];have q:W ((n:Int)+1)=((n+1:Nat):Int):=pY y9;rw[q,show a+n=a+(n+1) - 1 by omega];exact v
  |false=>
   simp only[cT,ak,j6,ai];rw[gn yA y9,Qf]
def Lc{l:List Qi}(hl:I l<=600)(hc:∀c∈l,oY c):∀(f a:Nat) (out:List Qw),a<=I l->I l - a<=f->I out<=a->JC (l.map oT,out,(a:Int))=O (out++(H7 l f a).map gQ)
 |0,a,out,g,j,k=>by
  rw[JC]
  have:¬((a:Int)<(I (l.map oT):Int)):=by simp;omega
  simp only[this,ai,H7,aH,jV]
 |f+1,a,out,g,j,k=>by
  rw[JC,H7];by_cases h:a<I l
  .have d:(a:Int)<(I (l.map oT):Int):=by simp;omega
   have m:sub (l.map oT) (a:Int) (I (l.map oT):Int)=O ((l.drop a).map oT):=by unfold sub;rw[aj ⟨by omega,by omega,aG _⟩];rw[dr];simp only[ca,cG]
   have e:=Lu hl hc h out y9 _ rfl (I l - (a+1)) 1 (j7 _) y9;simp only[show a+1 - 1=a by omega]at e;have n:JD (l.map oT,⟨a,1,(ce l a).fill,(ce l a).bc,(ce l a).offset,uv l a⟩,out,1,(a:Int))=O (((ou l a:Nat):Int),out++[gQ (Ny l a)],((a+ou l a:Nat):Int)):=e;have hn:=Cq h;simp only[d,ak,m,Qf,LX h hc,n,h];rw[Lc hl hc f (a+ou l a) _ hn.2 y9 yA];simp
  .have d:¬((a:Int)<(I (l.map oT):Int)):=by simp;omega
   simp[d,h]
def Kz(l:List Qi):List Qq:=H7 l (I l) 0
def Sb{l:List Qi}(hl:I l<=600)(hc:∀c∈l,oY c):TS (l.map oT)=O ((Kz l).map gQ):=by have e:=Lc hl hc (I l) 0 [] y9 y9 yB;have e':JC (l.map oT,[],0)=O ((Kz l).map gQ):=e;simp only[TS,e',Qf]
def KU(q:List Qi)(j:Nat):Prop:=(ce q j).fill=(ce q 0).fill/\(ce q j).bc=(ce q 0).bc/\(ce q j).offset - (ce q<|j - 1).offset=(ce q 1).offset - (ce q 0).offset
def KX{q:List Qi}(n:I q<=600)(hc:∀c∈q,oY c):∀(f i:Nat),1<=i->i+f=I q->∃r,Yb (q,(i:Int))=O r/\(r=.inr ()↔∀j,i<=j->j<I q->KU q j)
 |0,i,p,s=>by
  rw[Yb]
  have:¬((i:Int)<(I q:Int)):=by omega
  simp only[this,ai];exact⟨_,rfl,by simp;intro j a b;omega⟩
 |f+1,i,p,s=>by
  rw[Yb];have k:(i:Int)<(I q:Int):=by omega
  obtain⟨r,e,t⟩:=KX n hc f (i+1) y9 y9;have u:idx q 0=O (ce q 0):=vd (i:=0) y9;have v:idx q 1=O (ce q 1):=vd (i:=1) y9;have w:idx q (i:Int)=O (ce q i):=vd y9;have m:W ((i:Int) - 1)=((i - 1:Nat):Int):=by rw[gE y9 y9];omega
  have x:idx q ((i - 1:Nat):Int)=O (ce q<|i - 1):=vd y9;have C:=(hc _<|nc (i:=0) (l:=q) y9).2.1;have b1:=(hc _<|nc (i:=1) (l:=q) y9).2.1;have bi:=(hc _<|nc (i:=i) (l:=q) y9).2.1;have D:=(hc _<|nc (i:=i - 1) (l:=q) y9).2.1;have y:W ((ce q i).offset - (ce q<|i - 1).offset)=(ce q i).offset - (ce q<|i - 1).offset:=gE y9 y9;have z:W ((ce q 1).offset - (ce q 0).offset)=(ce q 1).offset - (ce q 0).offset:=gE y9 y9;simp only[k,ak,w,u,v,m,x,Qf,y,z,pY (show i<=1000000 by omega),e]
  have key:(∀j,i<=j->j<I q->KU q j)↔KU q i/\∀j,i+1<=j->j<I q->KU q j:=by
   constructor
   .exact λh=>⟨h i (j7 _) y9,λj a b=>h j y9 b⟩
   .rintro⟨A,B⟩ j a b
    by_cases e:i=j
    .subst e;exact A
    .exact B j y9 b
  rw[key];by_cases c1:(ce q i).fill=(ce q 0).fill
  .by_cases c2:(ce q i).bc=(ce q 0).bc
   .by_cases g:(ce q i).offset - (ce q<|i - 1).offset=(ce q 1).offset - (ce q 0).offset
    .have d:KU q i:=⟨c1,c2,g⟩;simp only[c1,c2,g,bne_self_eq_false,j6,ai,Qf];exact⟨r,rfl,by simp[t,d]⟩
    .have d:¬KU q i:=λh=>g h.2.2
     simp[c1,c2,g,d]
   .have d:¬KU q i:=λh=>c2 h.2.1
    simp[c1,c2,d]
  .have d:¬KU q i:=λh=>c1 h.1
   have:((ce q i).fill !=(ce q 0).fill)=J:=by simp[c1]
   simp[this,d]
def R9{l:List Qi}{a m j:Nat}(h:j<m)(c:a+m<=I l):ce ((l.drop a).take m) j=ce l (a+j):=by simp[ce,jB,jR,h]
def s8{c:Qi}{st:Int}(d:c.fill=U)(k:Nat):rL c st k=⟨U,c.bc,c.offset+k*st⟩:=by simp[rL,d]
def OB{l:List Qi}(hc:∀c∈l,oY c){a n:Nat}(hn:1<=n)(h:a+n<I l)(g:∀k,1<=k->k<n->GH l a k=J):
  (∀j,1<=j->j<n+1->KU ((l.drop a).take<|n+1) j)↔GH l a n=J:=by
 have d:∀j,j<=n->ce ((l.drop a).take<|n+1) j=ce l (a+j):=λj A=>R9 y9 y9
 have y:∀j,j<=n->(ce l<|a+j).fill=J->ce l (a+j)=⟨J,0,0⟩:=λj A p=>by have:=(hc _<|nc (l:=l) (i:=a+j) y9).2.2 p;generalize ce l (a+j)=x at p this;obtain⟨f,b,o⟩:=x;simp at p this;simp[p,this]
 have V:∀j,GH l a j=J↔ce l (a+j)=rL (ce l a) (uv l a) j:=λj=>sc
 by_cases p:(ce l a).fill=J
 .have q:∀j,GH l a j=J↔ce l (a+j)=⟨J,0,0⟩:=λj=>by rw[V,rL,aj p]
  have r:=y 0 y9 p;rw[zY a]at r;rw[q];constructor
  .intro H;have:=(H n hn y9).1;rw[d n (j7 _),d 0 y9,zY a,p]at this;exact y n (j7 _) this
  .intro H j B C
   have e:∀k,k<=n->ce l (a+k)=⟨J,0,0⟩:=λk D=>by
    by_cases t:k=0
    .subst t;exact r
    .by_cases u:k=n
     .subst u;exact H
     .exact(q k).1<|g k y9 y9
   unfold KU;rw[d j y9,d 0 y9,d (j - 1) y9,d 1 y9,e j y9,e 0 y9,e (j - 1) y9,e 1 y9];exact⟨rfl,rfl,rfl⟩
 .have m:(ce l a).fill=U:=by simpa using p
  have q:∀j,GH l a j=J↔ce l (a+j)=⟨U,(ce l a).bc,(ce l a).offset+j*uv l a⟩:=λj=>by rw[V,s8 m]
  constructor
  .intro H;obtain⟨p1,z,_⟩:=H 1 (j7 _) y9;rw[d 1 y9,d 0 y9,zY a]at p1 z
   have hst:uv l a=(ce l<|a+1).offset - (ce l a).offset:=by unfold uv;rw[aj ⟨by omega,m,by rw[p1,m],z⟩]
   obtain⟨q1,q2,q3⟩:=H n hn y9;rw[d n (j7 _),d 0 y9,zY a]at q1 q2;rw[d n (j7 _),d 0 y9,d (n - 1) y9,d 1 y9,zY a,<-hst]at q3;rw[q]
   have s:(ce l<|a+(n - 1)).offset=(ce l a).offset+((n - 1:Nat):Int)*uv l a:=by
    by_cases n1:n=1
    .subst n1;simp
    .have:=(q<|n - 1).1 (g (n - 1) y9 y9);rw[this]
   have v:(ce l<|a+n).offset=(ce l a).offset+(n:Int)*uv l a:=by
    have w:((n:Nat):Int)=((n - 1:Nat):Int)+1:=by omega
    rw[w,cr,bX];omega
   generalize E:ce l (a+n)=x at q1 q2 v;obtain⟨f,b,o⟩:=x;simp at q1 q2 v;simp[q1,m,q2,v]
  .intro H j B C
   have e:∀k,k<=n->ce l (a+k)=⟨U,(ce l a).bc,(ce l a).offset+k*uv l a⟩:=λk D=>by
    by_cases t:k=0
    .subst t
     have:ce l (a+0)=ce l a:=rfl
     rw[this];generalize ce l a=x at m;obtain⟨f,b,o⟩:=x;simp at m;simp[m]
    .by_cases u:k=n
     .subst u;exact(q k).1 H
     .exact(q k).1<|g k y9 y9
   unfold KU;rw[d j y9,d 0 y9,d (j - 1) y9,d 1 y9,e j y9,e 0 y9,e (j - 1) y9,e 1 y9];refine⟨rfl,rfl,?_⟩;simp only;have w:((j:Nat):Int)=((j - 1:Nat):Int)+1:=by omega
   rw[w,cr];simp;omega
def N4{l:List Qi}(hl:I l<=600)(hc:∀c∈l,oY c){a:Nat}(v:a<I l)(out:List Qq):
  ∀(f n:Nat),1<=n->a+n+f=I l->(∀k,1<=k->k<n->GH l a k=J)->Jd ((a:Int),l,out,(n:Int))=O ((ext l a f n:Nat):Int)
 |0,n,t,w,g=>by
  rw[Jd];have j:W ((a:Int)+n)=((a+n:Nat):Int):=by rw[gE y9 y9];omega
  have:¬(((a+n:Nat):Int)<(I l:Int)):=by omega
  simp only[j,this,ai,ext,Qf,j6]
 |f+1,n,t,w,g=>by
  rw[Jd,ext];have j:W ((a:Int)+n)=((a+n:Nat):Int):=by rw[gE y9 y9];omega
  have m:((a+n:Nat):Int)<(I l:Int):=by omega
  have x:sub l (a:Int) ((a+n+1:Nat):Int)=O ((l.drop a).take<|n+1):=by unfold sub;rw[aj ⟨by omega,by omega,by omega⟩];rw[ca,ca,List.drop_take];rw[show a+n+1 - a=n+1 by omega]
  have d:I ((l.drop a).take<|n+1)=n+1:=by simp;omega
  obtain⟨r,e,p⟩:=KX (q:=(l.drop a).take (n+1)) (by rw[d];omega) (λc h=>hc c<|cZ<|zS h) n 1 (j7 _) (by rw[d];omega);rw[d,OB hc t y9 g]at p
  have y:UW ((l.drop a).take<|n+1)=O (GH l a n):=by
   have e':Yb ((l.drop a).take<|n+1,1)=O r:=e;simp only[UW,e',Qf];cases r with
   |inl u=>cases s:GH l a n with
    |true=>have:=p.2 s;cases this
    |false=>rfl
   |inr u=>rw[p.1 rfl]
  simp only[j,m,ak,pY (show a+n<=1000000 by omega),x,Qf,y];cases s:GH l a n with
  |true=>
   simp only[ak,pY (show n<=1000000 by omega)]
   exact N4 hl hc v out f (n+1) y9 y9 λk k1 k2=>by
    by_cases e:k=n
    .subst e;exact s
    .exact g k k1 y9
  |false=>simp
def BA{l:List Qi}(hl:I l<=600)(hc:∀c∈l,oY c):∀(f a:Nat) (out:List Qq),a<=I l->I l - a<=f->I out<=a->Jc (l,out,(a:Int))=O (out++H7 l f a)
 |0,a,out,A,B,C=>by
  rw[Jc]
  have:¬((a:Int)<(I l:Int)):=by omega
  simp[this,H7]
 |f+1,a,out,A,B,C=>by
  rw[Jc,H7];by_cases h:a<I l
  .have p:(a:Int)<(I l:Int):=by omega
   have hn:=Cq h;have D:Jd ((a:Int),l,out,1)=O ((ou l a:Nat):Int):=N4 hl hc h out (I l - (a+1)) 1 (j7 _) y9 λk k1 k2=>by omega
   have s:W ((a:Int)+(ou l a:Nat))=((a+ou l a:Nat):Int):=by rw[gE y9 y9];omega
   have t:=hc _ (nc h)
   have d:(⟨(a:Int),((ou l a:Nat):Int),(ce l a).fill,if(ce l a).fill=U then(ce l a).bc else 0,if(ce l a).fill=U then(ce l a).offset else 0,if(ce l a).fill=U/\((ou l a:Nat):Int)>1 then(ce l<|a+1).offset - (ce l a).offset else 0⟩:Qq)=Ny l a:=by
    unfold Ny;by_cases j:(ce l a).fill=J
    .obtain⟨E,F⟩:=t.2.2 j;simp[j,E,F,uv]
    .have m:(ce l a).fill=U:=by simpa using j
     by_cases e:((ou l a:Nat):Int)>1
     .have V:=Ca l a (I l - (a+1)) 1 1 (j7 _) (by show 1<ou l a;omega);have q:ce l (a+1)=rL (ce l a) (uv l a) 1:=sc.1 V;rw[s8 m]at q
      have:(ce l<|a+1).offset - (ce l a).offset=uv l a:=by rw[q];simp;omega
      simp[m,e,this]
     .have u:ou l a=1:=by omega
      have:uv l a=0:=by
       unfold uv;split
       .rename_i v
        exfalso
        have V:GH l a 1=J:=by
         refine sc.2 ?_;rw[s8 m];have G:uv l a=(ce l<|a+1).offset - (ce l a).offset:=by unfold uv;rw[aj v]
         rw[G];obtain⟨_,_,w,y⟩:=v;generalize ce l (a+1)=x at w y |-;obtain⟨f,b,o⟩:=x;simp at w y;simp[w,y];omega
        have:2<=ou l a:=by unfold ou;obtain⟨g,H⟩:∃g,I l - (a+1)=g+1:=⟨I l - (a+1) - 1,by have:=v.1;omega⟩;rw[H,ext,aj V];exact(F9 l a g 2).1
        omega
       .rfl
      simp[m,u,this]
   rw[aj h,aj p];simp only[D,Qf,vd h];by_cases j:(ce l a).fill=U
   .by_cases e:((ou l a:Nat):Int)>1
    .have n:a+1<I l:=by omega
     have b1:=hc _ (nc n);have z:W ((ce l<|a+1).offset - (ce l a).offset)=(ce l<|a+1).offset - (ce l a).offset:=gE (by have:=b1.2.1;have:=t.2.1;omega) (by have:=b1.2.1;have:=t.2.1;omega);simp only[j,e,ak,Qf,decide_true,pY (show a<=1000000 by omega),vd n,z];simp only[j,e,ak,and_self]at d;rw[d,gn yA y9,Qf,s,BA hl hc f (a+ou l a) _ hn.2 y9 yA];simp
    .simp only[j,e,ak,Qf,y5,j6,ai];simp only[j,e,ak,and_false,ai]at d;rw[d,gn yA y9,Qf,s,BA hl hc f (a+ou l a) _ hn.2 y9 yA];simp
   .have K:¬(J=U):=by simp
    have r:(ce l a).fill=J:=by simpa using j
    simp only[r,reduceCtorEq,ai,Qf];simp only[r,reduceCtorEq,ai,false_and]at d;rw[d,gn yA y9,Qf,s,BA hl hc f (a+ou l a) _ hn.2 y9 yA];simp
  .have p:¬((a:Int)<(I l:Int)):=by omega
   simp[p,h]
def S5{l:List Qi}(hl:I l<=600)(hc:∀c∈l,oY c):Tw l=O (Kz l):=by have e:=BA hl hc (I l) 0 [] y9 y9 yB;have e':Jc (l,[],0)=O (Kz l):=e;simp only[Tw,e',Qf]
end Go.Proofs.Tryz
