/-
 Models of functions, their walks, and plain laws.
-/
import Derived.Test.YtjcfpjpdopfefaaGreatKDnfCountsB
namespace Go.Proofs.Tryz
open Go Go.Pm
set_option linter.unusedVariables false
set_option linter.unusedSimpArgs false
set_option maxRecDepth 2000
theorem Cells_ok (l:List Int) (hs:Sm l.length):Zs l=some (cellsR l):=by
 simp only [Zs,Check_ok l hs,Qe,Product_ok l hs,cellsR];by_cases hc:checkR l=0
 ·have:(prodR l).1=prodI l:=by
   unfold checkR at hc;unfold prodR;by_cases hn:negB l=true
   ·simp [hn] at hc
   ·by_cases hb:bigB l=true
    ·simp [hn,hb] at hc
    ·by_cases hp:prodI l > 65536
     ·simp [hn,hb,hp] at hc
     ·simp [hn,hb,hp]
  simp [hc,this]
 ·simp [hc]
def vld:List Int→List Int→Bool
 | [],[]=>true
 | n::s,x::i=>(decide (0≤x) && decide (x < n)) && vld s i
 | _,_=>false
theorem vld_len:∀ {s i:List Int},vld s i=true→s.length=i.length
 | [],[],_=>rfl
 | n::s,x::i,h=>by
  simp only [vld,jE] at h;simp [vld_len h.2]
 | [],_::_,h=>by cases h
 | _::_,[],h=>by cases h
theorem vld_get:∀ {s i:List Int},vld s i=true→∀ k,k < s.length→0≤i.getD k 0∧i.getD k 0 < s.getD k 0
 | [],_,_,k,hk=>by cases hk
 | n::s,x::i,h,k,hk=>by
  simp only [vld,jE,zA] at h;cases k with
  | zero=>simpa using h.1
  | succ k=>simpa using vld_get h.2 k (by simpa using hk)
 | _::_,[],h,_,_=>by cases h
theorem vld_of:∀ {s i:List Int},s.length=i.length→(∀ k,k < s.length→0≤i.getD k 0∧i.getD k 0 < s.getD k 0)→vld s i=true
 | [],[],_,_=>rfl
 | n::s,x::i,h,hg=>by
  simp only [vld,jE,zA];exact ⟨by simpa using hg 0 y7,vld_of (by simpa using h) fun k hk=>by simpa using hg (k+1) (by simpa using hk)⟩
 | [],_::_,h,_=>by cases h
 | _::_,[],h,_=>by cases h
theorem setM_ok {l:List Int} {j:Nat} {v:Int} (h:j < l.length):setM l (j:Int) v=some (l.set j v):=by simp [setM,h]
theorem guardM_ok {p:Prop} [Decidable p] (h:p):ZY p=some ():=if_pos h
theorem mid_set {α:Type} {p s:List α} {x y:α}:(p++x::s).set p.length y=(p++[y])++s:=by simp
def addW (l st:List Int):List Int:=List.zipWith (fun x n=>W (x+n)) l st
def zipP (l s:List Int) (j r:Int):Prop:=∀ a∈l.zip s,a.1=j→r≤a.2
theorem tr_L1 (v1 p0:Qa):∀ (s t p q:List Int),v1.shape=p++s→p0.perm=q++t→s.length=t.length→p.length=q.length→Sm (p++s).length →
  ∃ o,QI (v1,p0,(p.length:Int))=some o∧(o=.inr ()→∀ x∈t,0≤x∧x < (p0.shape.length:Int))
 | [],[],p,q,e1,e2,_,h2,hs=>by
  rw [QI]; simp only [e1,Q4,if_false];exact ⟨_,rfl,fun _ x h=>by cases h⟩
 | n::s,x::t,p,q,e1,e2,h1,h2,hs=>by
  rw [QI];obtain ⟨o,e,ho⟩:=tr_L1 v1 p0 s t (p++[n]) (q++[x]) (by rw [e1]; simp) (by rw [e2]; simp) (by simpa using h1) (by simp [h2]) (by rw [← Qr]; exact hs);have hi:idx (q++x::t) (p.length:Int)=some x:=by rw [h2]; exact Qy
  simp only [e1,e2,QU,if_true,hi,Qe,mid_W hs,e];by_cases ha:x < 0
  ·simp only [ha,if_true,Qe]; exact ⟨_,rfl,fun h=>by cases h⟩
  ·by_cases hb:x≥(p0.shape.length:Int)
   ·simp only [ha,hb,if_false,decide_true,Qe,if_true]; exact ⟨_,rfl,fun h=>by cases h⟩
   ·simp only [ha,hb,if_false,zY,Qe,j6];refine ⟨o,rfl,fun h y hy=>?_⟩;rcases List.mem_cons.1 hy with rfl|hy
    ·omega
    ·exact ho h y hy
 | [],_::_,_,_,_,_,h,_,_=>by cases h
 | _::_,[],_,_,_,_,h,_,_=>by cases h
theorem tr_L3 (v1 p0:Qa) (j:Int):∀ (s t p q:List Int) (v:Int),v1.shape=p++s→p0.perm=q++t→s.length=t.length→p.length=q.length→Sm (p++s).length →
  ∃ r,Qw (v1,p0,j,v,(p.length:Int))=some r∧((∀ n∈s,0≤n)→(0≤v→r≤v)∧zipP t s j r)
 | [],[],p,q,v,e1,e2,_,h2,hs=>by
  rw [Qw]; simp only [e1,Q4,if_false];exact ⟨_,rfl,fun _=>⟨fun _=>Int.le_refl _,fun a ha=>by cases ha⟩⟩
 | n::s,x::t,p,q,v,e1,e2,h1,h2,hs=>by
  rw [Qw];have ih:=fun v=>tr_L3 v1 p0 j s t (p++[n]) (q++[x]) v (by rw [e1]; simp) (by rw [e2]; simp) (by simpa using h1) (by simp [h2]) (by rw [← Qr]; exact hs)
  have hi:idx (q++x::t) (p.length:Int)=some x:=by rw [h2]; exact Qy
  simp only [e1,e2,QU,if_true,hi,Qe,Qy,mid_W hs]
  have new:∃ r,Qw (v1,p0,j,n,((p++[n]).length:Int))=some r∧((∀ m∈n::s,0≤m)→r≤n∧zipP (x::t) (n::s) j r):=by
   obtain ⟨r,e,hr⟩:=ih n;refine ⟨r,e,fun h=>?_⟩;obtain ⟨g1,g2⟩:=hr (fun m hm=>h m (jG _ hm));have g3:=g1 (h n (jM ..))
   exact ⟨g3,fun a ha=>by
    rcases List.mem_cons.1 ha with rfl|ha
    ·exact fun _=>g3
    ·exact g2 a ha⟩
  by_cases hx:x=j
  ·simp only [hx,if_true];by_cases hv:v < 0
   ·simp only [hv,if_true,Qe];obtain ⟨r,e,hr⟩:=new;exact ⟨r,e,fun h=>⟨fun h'=>by omega,by have:=(hr h).2; rwa [hx] at this⟩⟩
   ·by_cases hn:n < v
    ·simp only [hv,hn,if_false,Qe,decide_true,if_true];obtain ⟨r,e,hr⟩:=new;exact ⟨r,e,fun h=>⟨fun h'=>by have:=(hr h).1; omega,by have:=(hr h).2; rwa [hx] at this⟩⟩
    ·simp only [hv,hn,if_false,Qe,zY,j6];obtain ⟨r,e,hr⟩:=ih v;refine ⟨r,e,fun h=>?_⟩;obtain ⟨g1,g2⟩:=hr (fun m hm=>h m (jG _ hm));have g3:=g1 y5
     exact ⟨fun _=>g3,fun a ha=>by
      rcases List.mem_cons.1 ha with rfl|ha
      ·exact fun _=>by show r≤n; omega
      ·exact g2 a ha⟩
  ·simp only [hx,if_false,Qe,j6];obtain ⟨r,e,hr⟩:=ih v;refine ⟨r,e,fun h=>?_⟩;obtain ⟨g1,g2⟩:=hr (fun m hm=>h m (jG _ hm))
   exact ⟨g1,fun a ha=>by
    rcases List.mem_cons.1 ha with rfl|ha
    ·exact fun h'=>absurd h' hx
    ·exact g2 a ha⟩
 | [],_::_,_,_,_,_,_,h,_,_=>by cases h
 | _::_,[],_,_,_,_,_,h,_,_=>by cases h
theorem tr_L2 (v1 p0:Qa) (hl:v1.shape.length=p0.perm.length) (hv:Sm v1.shape.length):∀ (s p:List Int),p0.shape=p++s→Sm (p++s).length →
  ∃ o,QB (p0,v1,(p.length:Int))=some o∧(o=.inr ()→(∀ n∈v1.shape,0≤n)→∀ k,k < s.length→zipP p0.perm v1.shape ((p.length+k:Nat):Int) (s.getD k 0))
 | [],p,e1,hs=>by
  rw [QB]; simp only [e1,Q4,if_false];exact ⟨_,rfl,fun _ _ k hk=>by cases hk⟩
 | n::s,p,e1,hs=>by
  rw [QB];obtain ⟨r,er,hr⟩:=tr_L3 v1 p0 (p.length:Int) v1.shape p0.perm [] [] (-1) rfl rfl hl rfl hv;obtain ⟨o,e,ho⟩:=tr_L2 v1 p0 hl hv s (p++[n]) (by rw [e1]; simp) (by rw [← Qr]; exact hs);have er':Qw (v1,p0,(p.length:Int),-1,0)=some r:=er;simp only [e1,QU,if_true,er',Qe,Qy,mid_W hs,e];by_cases hn:r=n
  ·rw [if_neg (fun h=>h hn)];refine ⟨o,rfl,fun h h0 k hk=>?_⟩;cases k with
   | zero=>rw [← hn]; exact (hr h0).2
   | succ k =>
    have:=ho h h0 k (by simpa using hk);simp only [jV,zE,jL] at this;rw [show p.length+(k+1)=p.length+(0+1)+k by omega];exact this
  ·rw [if_pos hn]; exact ⟨_,rfl,fun h=>by cases h⟩
theorem zip_get:∀ {l s:List Int} {k:Nat},k < l.length→l.length=s.length→(l.getD k 0,s.getD k 0)∈l.zip s
 | x::l,n::s,0,_,_=>by simp
 | x::l,n::s,k+1,h,h2=>by
  simp only [List.getD_cons_succ,List.zip_cons_cons];exact jG _ (zip_get (by simpa using h) (by simpa using h2))
 | [],_,_,h,_=>by cases h
 | _::_,[],_,_,h=>by cases h
theorem tr_ok (p0 v1:Qa) (hk:idx p0.kids 0=some v1) (h1:Sm v1.shape.length) (h2:Sm p0.shape.length):∃ b,ZE p0=some b∧(b=true→p0.perm.length=v1.shape.length ∧
  ((∀ n∈v1.shape,0≤n)→∀ k,k < v1.shape.length→0≤p0.perm.getD k 0∧p0.perm.getD k 0 < (p0.shape.length:Int)∧p0.shape.getD (p0.perm.getD k 0).toNat 0≤v1.shape.getD k 0)):=by
 simp only [ZE,hk,Qe];by_cases hl:p0.perm.length=v1.shape.length
 ·rw [if_neg y5];obtain ⟨o,e,ho⟩:=tr_L1 v1 p0 v1.shape p0.perm [] [] rfl rfl hl.symm rfl h1;obtain ⟨o2,e2,ho2⟩:=tr_L2 v1 p0 hl.symm h1 p0.shape [] rfl h2;have e':QI (v1,p0,0)=some o:=e;have e2':QB (p0,v1,0)=some o2:=e2;rw [e',Qe];cases o with
  | inl _=>exact ⟨_,rfl,fun h=>by cases h⟩
  | inr _ =>
   simp only [e2',Qe];cases o2 with
   | inl _=>exact ⟨_,rfl,fun h=>by cases h⟩
   | inr _ =>
    refine ⟨_,rfl,fun _=>⟨hl,fun h0 k hk=>?_⟩⟩
    have hm:p0.perm.getD k 0∈p0.perm:=by
     rw [jB,jC y5];exact z8 _
    have g:=ho rfl _ hm;refine ⟨g.1,g.2,?_⟩;have z:=ho2 rfl h0 (p0.perm.getD k 0).toNat y5;exact z _ (zip_get y5 hl) (by simp only [jL,zW]; omega)
 ·rw [if_pos y5]; exact ⟨_,rfl,fun h=>by cases h⟩
def pick (l p:List Int):List Int:=p.map fun j=>l.getD j.toNat 0
theorem idx_getD {l:List Int} {j:Int} (h:0≤j) (h2:j < (l.length:Int)):idx l j=some (l.getD j.toNat 0):=by
 have:j.toNat < l.length:=by omega
 simp [idx,h,this]
def dotp:List Int→List Int→Int
 | _::s,x::i=>x * prodI s+dotp s i
 | _,_=>0
def strd:List Int→List Int
 | []=>[]
 | _::s=>prodI s::strd s
def dig:List Int→Int→List Int
 | [],_=>[]
 | _::s,o=>o / prodI s::dig s (o % prodI s)
theorem strd_len:∀ s:List Int,(strd s).length=s.length
 | []=>rfl
 | _::s=>by simp [strd,strd_len s]
theorem dig_len:∀ (s:List Int) (o:Int),(dig s o).length=s.length
 | [],_=>rfl
 | _::s,o=>by simp [dig,dig_len s]
theorem vld_pos:∀ {s i:List Int},vld s i=true→∀ n∈s,1≤n
 | n::s,x::i,h,m,hm=>by
  simp only [vld,jE,zA] at h;rcases List.mem_cons.1 hm with rfl|hm
  ·omega
  ·exact vld_pos h.2 m hm
 | [],_,_,m,hm=>by cases hm
 | _::_,[],h,_,_=>by cases h
theorem dotp_range:∀ {s i:List Int},vld s i=true→0≤dotp s i∧dotp s i < prodI s
 | [],[],_=>by simp [dotp,prodI]
 | n::s,x::i,h=>by
  simp only [vld,jE,zA] at h;obtain ⟨h1,h2⟩:=dotp_range h.2;have hp:=prodI_pos (vld_pos h.2);rw [dotp,prodI_cons];have a1:0≤x * prodI s:=Int.mul_nonneg h.1.1 y5;have a2:(x+1) * prodI s≤n * prodI s:=Int.mul_le_mul_of_nonneg_right y5 y5;rw [Int.add_mul,Int.one_mul] at a2;omega
 | [],_::_,h=>by cases h
 | _::_,[],h=>by cases h
theorem prod_le {a b:List Int} (ha:∀ n∈a,1≤n) (hb:∀ n∈b,1≤n):prodI b≤prodI (a++b):=by
 rw [prodI_append];have h1:=prodI_pos ha;have h2:=prodI_pos hb;have:=Int.mul_le_mul_of_nonneg_right h1 (show 0≤prodI b by omega);omega
theorem checkR_ok {s:List Int} (h:checkR s=0):s.length≤16∧prodI s≤65536∧∀ n∈s,0≤n∧n≤65536:=by
 unfold checkR at h;by_cases hn:negB s=true
 ·rw [if_pos hn] at h; cases h
 ·rw [if_neg hn] at h;by_cases h2:s.length > 16∨bigB s=true∨prodI s > 65536
  ·rw [if_pos h2] at h; cases h
  ·have hn':negB s=false:=by simpa using hn
   have hb:bigB s=false:=by
    cases hb:bigB s with
    | false=>rfl
    | true=>exact absurd (Or.inr (Or.inl hb)) h2
   refine ⟨by omega,by omega,fun n hm=>⟨neg_all hn' n hm,big_all hb n hm⟩⟩
theorem dm {o P n:Int} (ho:0≤o) (hP:0≤P) (hn:0≤n):(o % (P * n)) / n=(o / n) % P:=by
 obtain ⟨o',rfl⟩:=z7 ho;obtain ⟨P',rfl⟩:=z7 hP;obtain ⟨n',rfl⟩:=z7 hn;have:=Nat.mod_mul_left_div_self o' n' P'
 exact_mod_cast this
theorem mm {o P n:Int}:(o % (P * n)) % n=o % n:=Int.emod_emod_of_dvd o (Int.dvd_mul_left P n)
theorem dig_snoc:∀ (a:List Int) (n o:Int),(∀ m∈a,1≤m)→1≤n→0≤o→o < prodI (a++[n])→dig (a++[n]) o=dig a (o / n)++[o % n]
 | [],n,o,_,h,ho,ho2=>by
  have:prodI ([]++[n])=n:=by simp [prodI]
  rw [this] at ho2;simp only [jQ,dig,prodI_nil,Int.ediv_one];rw [Int.emod_eq_of_lt ho ho2]
 | m::a,n,o,h1,h,ho,ho2=>by
  have hp:=prodI_pos (fun k hk=>h1 k (jG _ hk));have hP:prodI (a++[n])=prodI a * n:=by rw [prodI_append,prodI_cons,prodI_nil,Int.mul_one]
  have hpos:0 < prodI a * n:=Int.mul_pos y5 y5;have ih:=dig_snoc a n (o % prodI (a++[n])) (fun k hk=>h1 k (jG _ hk)) h (Int.emod_nonneg _ (by rw [hP]; omega)) (Int.emod_lt_of_pos _ (by rw [hP]; exact hpos));rw [hP] at ih;simp only [List.cons_append,dig];rw [hP,ih,dm ho y5 y5,mm,Int.mul_comm (prodI a) n,← Int.ediv_ediv_of_nonneg (by omega:0≤n)]
theorem vld_dig:∀ {s:List Int} {o:Int},(∀ n∈s,1≤n)→0≤o→o < prodI s→vld s (dig s o)=true
 | [],_,_,_,_=>rfl
 | n::s,o,h,h1,h2=>by
  have hp:=prodI_pos (fun k hk=>h k (jG _ hk));rw [prodI_cons] at h2;simp only [dig,vld,jE,zA];exact ⟨⟨Int.ediv_nonneg h1 y5,Int.ediv_lt_of_lt_mul y5 h2⟩,vld_dig (fun k hk=>h k (jG _ hk)) (Int.emod_nonneg _ y5) (Int.emod_lt_of_pos _ y5)⟩
theorem remM_ok {a b:Int} (ha:0≤a) (hb:1≤b):remM a b=some (a % b):=by
 rw [remM,if_neg y5,Int.tmod_eq_emod_of_nonneg ha]
theorem make_ok {n:Nat} (h:n≤1000):makeM 8 (n:Int) (0:Int)=some (List.replicate n 0):=by
 have:((n:Int) * 8≤(room:Int)):=by
  have:(1000:Nat) * 8≤room:=by decide +kernel
  omega
 simp [makeM,this]; omega
mutual
def szC:Qa→Nat
 | ⟨_,_,_,_,_,_,_,kids⟩=>1+szCs kids
def szCs:List Qa→Nat
 | []=>0
 | k::ks=>szC k+szCs ks
end
mutual
def smC:Qa→Prop
 | ⟨_,shape,_,starts,_,_,perm,kids⟩=>shape.length≤40∧starts.length≤40∧perm.length≤40∧kids.length≤600∧smCs kids
def smCs:List Qa→Prop
 | []=>True
 | k::ks=>smC k∧smCs ks
end
theorem szC_pos:∀ c:Qa,1≤szC c
 | ⟨_,_,_,_,_,_,_,kids⟩=>by rw [szC]; omega
theorem szCs_len:∀ l:List Qa,l.length≤szCs l
 | []=>zN _
 | k::ks=>by have:=szCs_len ks; have:=szC_pos k; rw [szCs]; simp only [zE]; omega
mutual
theorem left_ok:∀ (c:Qa) (n:Int),0≤n→n≤600→∃ r,YA (c,n)=some r∧-1≤r∧r≤n - 1∧(0≤r→r+szC c≤n∧smC c)
 | ⟨k,sh,b,st,ax,am,pe,ks⟩,n,h1,h2=>by
  rw [YA];simp only [];have w:W (n - 1)=n - 1:=W_ok y5 y5;obtain ⟨r,e,i1,i2,i3⟩:=left_loop ks [] (n - 1) k sh b st ax am pe y5 y6;simp only [jQ,jL,jJ] at e;by_cases c1:(sh.length:Int) > 40
  ·exact ⟨-1,by simp only [c1,if_true,if_false,Qe,decide_true,zY,j6],by omega,by omega,by omega⟩
  ·by_cases c2:(st.length:Int) > 40
   ·exact ⟨-1,by simp only [c1,c2,if_true,if_false,Qe,decide_true,zY,j6],by omega,by omega,by omega⟩
   ·by_cases c3:(pe.length:Int) > 40
    ·exact ⟨-1,by simp only [c1,c2,c3,if_true,if_false,Qe,decide_true,zY,j6],by omega,by omega,by omega⟩
    ·refine ⟨r,by simp only [c1,c2,c3,w,e,if_true,if_false,Qe,decide_true,zY,j6],i1,i2,fun h=>?_⟩;have:=i3 h;have hl:=szCs_len ks;rw [szC,smC];exact ⟨by omega,by omega,by omega,by omega,by omega,this.2⟩
theorem left_loop:∀ (s p:List Qa) (n:Int) (k:Int) (sh:List Int) (b:Int) (st:List Int) (ax am:Int) (pe:List Int),-1≤n→(p.length:Int)+n≤600 →
  ∃ r,Zt (⟨k,sh,b,st,ax,am,pe,p++s⟩,n,(p.length:Int))=some r∧-1≤r∧r≤n∧(0≤r→r+szCs s≤n∧smCs s)
 | [],p,n,k,sh,b,st,ax,am,pe,h1,h2=>by
  rw [Zt];simp only [Q4,if_false,Qe,j6];exact ⟨n,rfl,h1,by omega,fun h=>⟨by rw [szCs]; omega,trivial⟩⟩
 | x::s,p,n,k,sh,b,st,ax,am,pe,h1,h2=>by
  rw [Zt];simp only [QU,if_true,Qe];by_cases hn:n≥0
  ·rw [decide_eq_true hn];obtain ⟨r,e,i1,i2,i3⟩:=left_ok x n hn y5;obtain ⟨r',e',j1,j2,j3⟩:=left_loop s (p++[x]) r k sh b st ax am pe i1 y6;rw [← Qr] at e';have w:W ((p.length:Int)+1)=((p++[x]).length:Int):=by rw [W_ok y5 y5]; simp
   simp only [if_true,Qy,Qe,e,w,e'];refine ⟨r',rfl,j1,by omega,fun h=>?_⟩;have a:=j3 h;have b:=i3 y5;rw [szCs,smCs];exact ⟨by omega,b.2,a.2⟩
  ·rw [zX hn];simp only [j6,if_false];exact ⟨n,rfl,h1,by omega,fun h=>by omega⟩
end
theorem Few_ok (c:Qa) (n:Int) (h1:0≤n) (h2:n≤600):∃ b,Jc (c,n)=some b∧(b=true→smC c∧(szC c:Int)≤n):=by
 obtain ⟨r,e,_,_,h⟩:=left_ok c n h1 h2;refine ⟨decide (r≥0),by simp only [Jc,e,Qe],fun hb=>?_⟩;have h0:0≤r:=by simpa using hb
 have:=h h0;exact ⟨this.2,by omega⟩
mutual
def conv:Qa→QG
 | ⟨k,sh,b,st,ax,am,pe,ks⟩=>⟨k,sh,b,st,ax,am,pe,convs ks⟩
def convs:List Qa→List QG
 | []=>[]
 | k::ks=>conv k::convs ks
end
theorem Equal_ok' (a b:List Int) (hs:Sm b.length):ZV (a,b)=some (decide (a=b)):=by
 by_cases h:a.length=b.length
 ·exact Equal_ok a b (by rw [h]; exact hs)
 ·have e2:((a.length:Int)≠(b.length:Int)):=by omega
  have e3:a≠b:=fun e=>h (by rw [e])
  simp only [ZV];rw [if_pos e2,zX e3]
theorem idx_zero {α:Type} {l:List α} {k:α} {r:List α} (h:l=k::r):idx l 0=some k:=by subst h; rfl
theorem idx_one {α:Type} {l:List α} {k k2:α} {r:List α} (h:l=k::k2::r):idx l 1=some k2:=by subst h; rfl
theorem alike_ok (p0 k:Qa) (r:List Qa) (hk:p0.kids=k::r) (hs:Sm p0.shape.length):∃ b,YI p0=some b∧(b=true→k.shape=p0.shape∧0≤p0.axis∧p0.axis < (p0.shape.length:Int)):=by
 simp only [YI,idx_zero hk,Qe,Equal_ok' _ _ hs];by_cases h1:k.shape=p0.shape
 ·by_cases h2:p0.axis≥0
  ·by_cases h3:p0.axis < (p0.shape.length:Int)
   ·exact ⟨true,by simp [h1,h2,h3],fun _=>⟨h1,h2,h3⟩⟩
   ·exact ⟨false,by simp [h1,h2,h3],fun h=>by cases h⟩
  ·exact ⟨false,by simp [h1,h2],fun h=>by cases h⟩
 ·exact ⟨false,by simp [h1],fun h=>by cases h⟩
def catA (ax:Int) (s a b:List Int) (k:Nat):Prop:=((k:Int)=ax→s.getD k 0=W (a.getD k 0+b.getD k 0))∧((k:Int)≠ax→a.getD k 0=b.getD k 0∧a.getD k 0=s.getD k 0)
theorem get_mid {p s:List Int} {x:Int}:(p++x::s).getD p.length 0=x:=by simp
theorem join_L1 (v1 p0 v2:Qa):∀ (a b s p q u:List Int),v1.shape=p++a→v2.shape=q++b→p0.shape=u++s→a.length=b.length→a.length=s.length→p.length=q.length→p.length=u.length→Sm (p++a).length →
  ∃ o,Zl (v1,p0,v2,(p.length:Int))=some o∧(o=.inr ()→∀ k,p.length≤k→k < v1.shape.length→catA p0.axis p0.shape v1.shape v2.shape k)
 | [],b,s,p,q,u,e1,e2,e3,_,_,_,_,hs=>by
  rw [Zl]; simp only [e1,Q4,if_false];exact ⟨_,rfl,fun _ k h1 h2=>by simp at h2; omega⟩
 | x::a,y::b,z::s,p,q,u,e1,e2,e3,h1,h2,h3,h4,hs=>by
  rw [Zl];obtain ⟨o,e,ho⟩:=join_L1 v1 p0 v2 a b s (p++[x]) (q++[y]) (u++[z]) (by rw [e1]; simp) (by rw [e2]; simp) (by rw [e3]; simp) (by simpa using h1) (by simpa using h2) (by simp [h3]) (by simp [h4]) (by rw [← Qr]; exact hs);have i1:idx v1.shape (p.length:Int)=some x:=by rw [e1]; exact Qy
  have i2:idx v2.shape (p.length:Int)=some y:=by rw [e2,h3]; exact Qy
  have i3:idx p0.shape (p.length:Int)=some z:=by rw [e3,h4]; exact Qy
  have g1:v1.shape.getD p.length 0=x:=by rw [e1]; exact get_mid
  have g2:v2.shape.getD p.length 0=y:=by rw [e2,h3]; exact get_mid
  have g3:p0.shape.getD p.length 0=z:=by rw [e3,h4]; exact get_mid
  have ht:((p.length:Int) < (v1.shape.length:Int)):=by rw [e1]; exact QU
  have w:W ((p.length:Int)+1)=((p++[x]).length:Int):=mid_W hs
  have fin:∀ c:catA p0.axis p0.shape v1.shape v2.shape p.length,o=.inr ()→∀ k,p.length≤k→k < v1.shape.length→catA p0.axis p0.shape v1.shape v2.shape k:=fun c h k hk hk2=>by
   by_cases hkp:k=p.length
   ·rw [hkp]; exact c
   ·exact ho h k y6 hk2
  simp only [ht,if_true,i1,i2,i3,Qe,w,e];by_cases ha:(p.length:Int)=p0.axis
  ·simp only [ha,if_true,Qe,ne_eq,not_true,if_false];by_cases hz:z=W (x+y)
   ·refine ⟨o,by simp [hz],fin ⟨fun _=>by rw [g1,g2,g3]; exact hz,fun h=>absurd ha h⟩⟩
   ·exact ⟨.inl (),by simp [hz],fun h=>by cases h⟩
  ·simp only [ha,if_false,Qe,ne_eq,zB,if_true,j6];by_cases hx:x=y
   ·by_cases hz:x=z
    ·refine ⟨o,by simp [← hx,← hz],fin ⟨fun h=>absurd h ha,fun _=>by rw [g1,g2,g3]; exact ⟨hx,hz⟩⟩⟩
    ·exact ⟨.inl (),by simp [← hx,hz],fun h=>by cases h⟩
   ·exact ⟨.inl (),by simp [hx],fun h=>by cases h⟩
 | _::_,[],_,_,_,_,_,_,_,h,_,_,_,_=>by cases h
 | _::_,_::_,[],_,_,_,_,_,_,_,h,_,_,_=>by cases h
theorem joined_ok (p0 v1 v2:Qa) (r:List Qa) (hk:p0.kids=v1::v2::r) (hs:Sm v1.shape.length):∃ b,YV p0=some b∧(b=true→v1.shape.length=v2.shape.length∧v1.shape.length=p0.shape.length ∧
  0≤p0.axis∧p0.axis < (v1.shape.length:Int)∧∀ k,k < v1.shape.length→catA p0.axis p0.shape v1.shape v2.shape k):=by
 simp only [YV,idx_zero hk,idx_one hk,Qe];by_cases h1:v1.shape.length=v2.shape.length
 ·by_cases h2:v1.shape.length=p0.shape.length
  ·by_cases h3:p0.axis < 0
   ·exact ⟨false,by simp [h1,h2,← h2,h3],fun h=>by cases h⟩
   ·by_cases h4:p0.axis≥(v1.shape.length:Int)
    ·refine ⟨false,?_,fun h=>by cases h⟩;have c1:(v1.shape.length:Int)=(v2.shape.length:Int):=by omega
     have c2:((v1.shape.length:Int) != (p0.shape.length:Int))=false:=by simp [h2]
     simp only [ne_eq,c1,not_true,if_false,Qe,j6,zX h3];rw [← c1];simp only [c2,Qe,j6,if_false,decide_eq_true h4,if_true]
    ·obtain ⟨o,e,ho⟩:=join_L1 v1 p0 v2 v1.shape v2.shape p0.shape [] [] [] rfl rfl rfl h1 h2 rfl rfl hs;have e':Zl (v1,p0,v2,0)=some o:=e;have c1:¬ ((v1.shape.length:Int)≠(v2.shape.length:Int)):=by omega
     have c2:((v1.shape.length:Int) != (p0.shape.length:Int))=false:=by simp [h2]
     have m:∀ f:Unit ⊕ Unit→Option Bool,f o=(if o.isRight then f (.inr ()) else f (.inl ())):=fun f=>by cases o <;> rfl
     simp only [c1,if_false,c2,Qe,j6,zX h3,zX h4,e'];cases o with
     | inl _=>exact ⟨_,rfl,fun h=>by cases h⟩
     | inr _=>exact ⟨_,rfl,fun _=>⟨h1,h2,by omega,by omega,fun k hk=>ho rfl k (zN _) hk⟩⟩
  ·refine ⟨false,?_,fun h=>by cases h⟩;have c1:¬ ((v1.shape.length:Int)≠(v2.shape.length:Int)):=by omega
   have c2:((v1.shape.length:Int) != (p0.shape.length:Int))=true:=by simp; omega
   simp only [c1,if_false,Qe,c2,if_true]
 ·refine ⟨false,?_,fun h=>by cases h⟩;have c1:((v1.shape.length:Int)≠(v2.shape.length:Int)):=by omega
  simp only [if_pos c1,Qe,if_true]
theorem ite_some {α:Type} {p:Prop} [Decidable p] {a b:α}:(if p then some a else some b)=some (if p then a else b):=by split <;> rfl
structure nodeF (c:Qa):Prop where
 kind:1≤c.kind∧c.kind≤7
 kids:(c.kids.length:Int)=if c.kind=7 then 2 else if c.kind=1 then 0 else 1
 chk:checkR c.shape=0
 win:c.kind=2→c.starts.length=c.shape.length∧(∀ x∈c.starts,-65536≤x∧x≤65536)∧∀ k r,c.kids=k::r→k.shape.length=c.shape.length
 rev:c.kind=3∨c.kind=4→∀ k r,c.kids=k::r→k.shape=c.shape∧0≤c.axis∧c.axis < (c.shape.length:Int)
 rot:c.kind=4→0≤c.amount∧(c.amount=0∨c.amount < c.shape.getD c.axis.toNat 0)
 tra:c.kind=5→∀ k r,c.kids=k::r→c.perm.length=k.shape.length ∧
  ((∀ n∈k.shape,0≤n)→∀ j,j < k.shape.length→0≤c.perm.getD j 0∧c.perm.getD j 0 < (c.shape.length:Int)∧c.shape.getD (c.perm.getD j 0).toNat 0≤k.shape.getD j 0)
 tr2:c.kind=5→ZE c=some true
 cat:c.kind=7→∀ k k2 r,c.kids=k::k2::r→k.shape.length=k2.shape.length∧k.shape.length=c.shape.length∧0≤c.axis∧c.axis < (k.shape.length:Int)∧∀ j,j < k.shape.length→catA c.axis c.shape k.shape k2.shape j
theorem nodeW_L1 (c:Qa):∀ (s p:List Int),c.starts=p++s→Sm (p++s).length→∃ o,ZD (c,(p.length:Int))=some o∧(o=.inr ()→∀ x∈s,-65536≤x∧x≤65536)
 | [],p,e1,hs=>by
  rw [ZD]; simp only [e1,Q4,if_false];exact ⟨_,rfl,fun _ x h=>by cases h⟩
 | x::s,p,e1,hs=>by
  rw [ZD];obtain ⟨o,e,ho⟩:=nodeW_L1 c s (p++[x]) (by rw [e1]; simp) (by rw [← Qr]; exact hs);simp only [e1,QU,if_true,Qy,Qe,mid_W hs,e];by_cases ha:x < -65536
  ·exact ⟨.inl (),by simp [ha,Qe],fun h=>by cases h⟩
  ·by_cases hb:x > 65536
   ·exact ⟨.inl (),by simp [ha,hb,Qe],fun h=>by cases h⟩
   ·refine ⟨o,by simp [ha,hb,Qe],fun h y hy=>?_⟩;rcases List.mem_cons.1 hy with rfl|hy
    ·omega
    ·exact ho h y hy
theorem kids_one {c:Qa} (h:(c.kids.length:Int)=1):∃ k,c.kids=[k]:=by
 match hk:c.kids,h with
 | [k],_=>exact ⟨k,rfl⟩
 | [],h=>simp at h
 | _::_::_,h=>simp at h; omega
theorem kids_two {c:Qa} (h:(c.kids.length:Int)=2):∃ k k2,c.kids=[k,k2]:=by
 match hk:c.kids,h with
 | [k,k2],_=>exact ⟨k,k2,rfl⟩
 | [],h=>simp at h
 | [_],h=>simp at h
 | _::_::_::_,h=>simp at h; omega
theorem ex_if {B:Bool} {R:Option Bool} {F:Prop} (h:B=false→∃ b,R=some b∧(b=true→F)):∃ b,(if B=true then some false else R)=some b∧(b=true→F):=by
 cases B with
 | true=>exact ⟨false,rfl,fun h=>by cases h⟩
 | false=>exact h rfl
theorem node_ok (c:Qa) (bs:List (List Int)) (h1:c.shape.length≤40) (h2:c.starts.length≤40) (h4:∀ k∈c.kids,k.shape.length≤40) :
  ∃ b,YB (c,bs)=some b∧(b=true→nodeF c):=by
 have hS:Sm c.shape.length:=Sm_of (show c.shape.length≤1000 by omega);simp only [YB,ite_some,Qe,Check_ok _ hS];refine ex_if fun g3=>?_
 have k1:¬ c.kind < 1:=fun h=>by simp [h] at g3
 have k7:¬ c.kind > 7:=fun h=>by simp [h] at g3
 have kl:(c.kids.length:Int)=if c.kind=7 then 2 else if c.kind=1 then 0 else 1:=Decidable.byContradiction fun h=>by simp [h] at g3
 have kc:checkR c.shape=0:=Decidable.byContradiction fun h=>by simp [h] at g3
 clear g3;refine ex_if fun g7=>?_
 clear g7;by_cases c1:c.kind=1
 ·rw [if_pos c1];have hn:nodeF c:=⟨by omega,kl,kc,by omega,by omega,by omega,by omega,by omega,by omega⟩;by_cases hb:0≤c.buffer∧c.buffer < (bs.length:Int)
  ·have hb':(if c.buffer≥0 then decide (c.buffer < (bs.length:Int)) else false)=true:=by simp [hb]
   rw [if_pos hb'];have hi:c.buffer.toNat < bs.length:=by omega
   have:idx bs c.buffer=some bs[c.buffer.toNat]:=by simp [idx,hb.1,hi]
   simp only [this,Qe,Equal_ok' _ _ hS];exact ⟨_,rfl,fun _=>hn⟩
  ·have hb':¬ (if c.buffer≥0 then decide (c.buffer < (bs.length:Int)) else false)=true:=by
    by_cases h0:c.buffer≥0
    ·simp only [h0,if_true,zA]; omega
    ·simp [h0]
   rw [if_neg hb'];exact ⟨_,rfl,fun h=>by cases h⟩
 rw [if_neg c1];by_cases c2:c.kind=2
 ·rw [if_pos c2];obtain ⟨k,hk⟩:=kids_one (c:=c) (by rw [kl,if_neg y5,if_neg c1]);obtain ⟨o,e,ho⟩:=nodeW_L1 c c.starts [] rfl (Sm_of (show ([]++c.starts).length≤1000 by simp; omega));have e':ZD (c,0)=some o:=e;rw [e',Qe];cases o with
  | inl _=>exact ⟨_,rfl,fun h=>by cases h⟩
  | inr _ =>
   simp only [idx_zero hk,Qe];by_cases hl:(c.starts.length:Int)=(c.shape.length:Int)
   ·rw [if_pos hl];refine ⟨_,rfl,fun h=>⟨by omega,kl,kc,fun _=>⟨by omega,ho rfl,fun k' r hk'=>?_⟩,by omega,by omega,by omega,by omega,by omega⟩⟩;rw [hk] at hk';cases hk';simp at h; omega
   ·rw [if_neg hl]; exact ⟨_,rfl,fun h=>by cases h⟩
 rw [if_neg c2];by_cases c3:c.kind=3
 ·rw [if_pos c3];obtain ⟨k,hk⟩:=kids_one (c:=c) (by rw [kl,if_neg y5,if_neg c1]);obtain ⟨b,e,hb⟩:=alike_ok c k [] hk hS;rw [e,Qe];exact ⟨_,rfl,fun h=>⟨by omega,kl,kc,by omega,fun _ k' r hk'=>by rw [hk] at hk'; cases hk'; exact hb h,by omega,by omega,by omega,by omega⟩⟩
 rw [if_neg c3];by_cases c4:c.kind=4
 ·rw [if_pos c4];obtain ⟨k,hk⟩:=kids_one (c:=c) (by rw [kl,if_neg y5,if_neg c1]);obtain ⟨b,e,hb⟩:=alike_ok c k [] hk hS;rw [e,Qe];cases b with
  | false=>exact ⟨false,by simp,fun h=>by cases h⟩
  | true =>
   obtain ⟨a1,a2,a3⟩:=hb rfl;have hr:c.kind=3∨c.kind=4→∀ k r,c.kids=k::r→k.shape=c.shape∧0≤c.axis∧c.axis < (c.shape.length:Int):=fun _ k' r hk'=>by rw [hk] at hk'; cases hk'; exact ⟨a1,a2,a3⟩
   by_cases hm:c.amount≥0
   ·simp only [if_true,decide_eq_true hm];by_cases h0:c.amount=0
    ·rw [if_pos h0];exact ⟨_,rfl,fun h=>⟨by omega,kl,kc,by omega,hr,fun _=>⟨hm,Or.inl h0⟩,by omega,by omega,by omega⟩⟩
    ·rw [if_neg h0];simp only [idx_getD a2 a3,Qe];exact ⟨_,rfl,fun h=>⟨by omega,kl,kc,by omega,hr,fun _=>⟨hm,Or.inr (by simpa using h)⟩,by omega,by omega,by omega⟩⟩
   ·simp only [if_true,zX hm,j6,if_false];exact ⟨_,rfl,fun h=>by cases h⟩
 rw [if_neg c4];by_cases c5:c.kind=5
 ·rw [if_pos c5];obtain ⟨k,hk⟩:=kids_one (c:=c) (by rw [kl,if_neg y5,if_neg c1]);have hks:=h4 k (by rw [hk]; simp);obtain ⟨b,e,hb⟩:=tr_ok c k (idx_zero hk) (Sm_of (show k.shape.length≤1000 by omega)) hS;rw [e,Qe];exact ⟨_,rfl,fun h=>⟨by omega,kl,kc,by omega,by omega,by omega,fun _ k' r hk'=>by rw [hk] at hk'; cases hk'; exact hb h,fun _=>by rw [e,h],by omega⟩⟩
 rw [if_neg c5];by_cases c7:c.kind=7
 ·rw [if_pos c7];obtain ⟨k,k2,hk⟩:=kids_two (c:=c) (by rw [kl,if_pos c7]);have hks:=h4 k (by rw [hk]; simp);obtain ⟨b,e,hb⟩:=joined_ok c k k2 [] hk (Sm_of (show k.shape.length≤1000 by omega));rw [e,Qe];exact ⟨_,rfl,fun h=>⟨by omega,kl,kc,by omega,by omega,by omega,by omega,by omega,fun _ k' k2' r hk'=>by rw [hk] at hk'; cases hk'; exact hb h⟩⟩
 ·rw [if_neg c7];exact ⟨_,rfl,fun _=>⟨by omega,kl,kc,by omega,by omega,by omega,by omega,by omega,by omega⟩⟩
theorem smCs_mem:∀ {l:List Qa},smCs l→∀ k∈l,smC k
 | x::l,h,k,hk=>by
  rw [smCs] at h;rcases List.mem_cons.1 hk with rfl|hk
  ·exact h.1
  ·exact smCs_mem h.2 k hk
 | [],_,_,hk=>by cases hk
theorem smC_f {c:Qa} (h:smC c):c.shape.length≤40∧c.starts.length≤40∧c.perm.length≤40∧c.kids.length≤600∧smCs c.kids:=by
 cases c; rw [smC] at h; exact h
theorem YF {α:Type} {p s:List α} {x:α} (h:p.length+(x::s).length≤600):W ((p.length:Int)+1)=((p++[x]).length:Int):=by
 simp at h;rw [W_ok y5 y5]; simp
def bufF (bs:List (List Int)) (c:Qa):Prop:=c.kind=1→idx bs c.buffer=some c.shape
theorem node_buf (c:Qa) (bs:List (List Int)) (hS:Sm c.shape.length) (h:YB (c,bs)=some true):bufF bs c:=by
 intro c1;simp only [YB,ite_some,Qe,Check_ok _ hS] at h
 have g:∀ {B:Bool} {R:Option Bool},(if B=true then some false else R)=some true→R=some true:=fun {B} {R} h=>by
  cases B with
  | true=>cases h
  | false=>exact h
 replace h:=g (g h);rw [if_pos c1] at h;by_cases hb':0≤c.buffer∧c.buffer < (bs.length:Int)
 ·have hi:c.buffer.toNat < bs.length:=by omega
  have e:idx bs c.buffer=some bs[c.buffer.toNat]:=by simp [idx,hb'.1,hi]
  simp only [show c.buffer≥0 from hb'.1,if_true,decide_eq_true hb'.2,e,Qe,Equal_ok' _ _ hS,j9,zA] at h;rw [e,h]
 ·have hb:¬ (if c.buffer≥0 then decide (c.buffer < (bs.length:Int)) else false)=true:=by
   by_cases h0:c.buffer≥0
   ·simp only [h0,if_true,zA]; omega
   ·simp [h0]
  rw [if_neg hb] at h;cases h
mutual
def nodesF (bs:List (List Int)):Qa→Prop
 | ⟨k,sh,b,st,ax,am,pe,ks⟩=>nodeF ⟨k,sh,b,st,ax,am,pe,ks⟩∧bufF bs ⟨k,sh,b,st,ax,am,pe,ks⟩∧nodesFs bs ks
def nodesFs (bs:List (List Int)):List Qa→Prop
 | []=>True
 | k::ks=>nodesF bs k∧nodesFs bs ks
end
theorem nodesFs_mem {bs:List (List Int)}:∀ {l:List Qa},nodesFs bs l→∀ k∈l,nodesF bs k
 | x::l,h,k,hk=>by
  rw [nodesFs] at h;rcases List.mem_cons.1 hk with rfl|hk
  ·exact h.1
  ·exact nodesFs_mem h.2 k hk
 | [],_,_,hk=>by cases hk
theorem nodesF_f {bs:List (List Int)} {c:Qa} (h:nodesF bs c):nodeF c∧bufF bs c∧∀ k∈c.kids,nodesF bs k:=by
 cases c; rw [nodesF] at h; exact ⟨h.1,h.2.1,nodesFs_mem h.2.2⟩
mutual
theorem nodes_ok (bs:List (List Int)):∀ (c:Qa),smC c→∃ b,Ym (c,bs)=some b∧(b=true→nodesF bs c)
 | ⟨k,sh,b,st,ax,am,pe,ks⟩,h=>by
  have hf:=smC_f h;rw [Ym];obtain ⟨v,e,hv⟩:=node_ok ⟨k,sh,b,st,ax,am,pe,ks⟩ bs hf.1 hf.2.1 (fun k hk=>(smC_f (smCs_mem hf.2.2.2.2 k hk)).1);simp only [e,Qe];cases v with
  | false=>exact ⟨false,rfl,fun h=>by cases h⟩
  | true =>
   have hbuf:=node_buf _ bs (Sm_of (show sh.length≤1000 by have:=hf.1; simp only at this; omega)) e;obtain ⟨o,e2,ho⟩:=nodes_loop bs ks [] k sh b st ax am pe hf.2.2.2.2 (by have:=hf.2.2.2.1; simpa using this);simp only [jQ,jL,jJ] at e2;simp only [jO,if_false,e2,Qe];cases o with
   | inl _=>exact ⟨false,rfl,fun h=>by cases h⟩
   | inr _=>exact ⟨true,rfl,fun _=>by rw [nodesF]; exact ⟨hv rfl,hbuf,ho rfl⟩⟩
theorem nodes_loop (bs:List (List Int)):∀ (s p:List Qa) (k:Int) (sh:List Int) (b:Int) (st:List Int) (ax am:Int) (pe:List Int),smCs s→p.length+s.length≤600 →
  ∃ o,Zf (⟨k,sh,b,st,ax,am,pe,p++s⟩,bs,(p.length:Int))=some o∧(o=.inr ()→nodesFs bs s)
 | [],p,k,sh,b,st,ax,am,pe,h1,h2=>by
  rw [Zf]; simp only [Q4,if_false];exact ⟨_,rfl,fun _=>trivial⟩
 | x::s,p,k,sh,b,st,ax,am,pe,h1,h2=>by
  rw [Zf];rw [smCs] at h1;obtain ⟨v,e,hv⟩:=nodes_ok bs x h1.1;obtain ⟨o,e',ho⟩:=nodes_loop bs s (p++[x]) k sh b st ax am pe h1.2 (by simp at h2 ⊢; omega);rw [← Qr] at e';simp only [QU,if_true,Qy,Qe,e,YF h2,e'];cases v with
  | false=>exact ⟨.inl (),rfl,fun h=>by cases h⟩
  | true=>exact ⟨o,rfl,fun h=>by rw [nodesFs]; exact ⟨hv rfl,ho h⟩⟩
end
mutual
theorem depth_ok:∀ (c:Qa),smC c→∃ d,Yk c=some d
 | ⟨k,sh,b,st,ax,am,pe,ks⟩,h=>by
  have hf:=smC_f h;rw [Yk];obtain ⟨o,e2⟩:=depth_loop ks [] 0 k sh b st ax am pe hf.2.2.2.2 (by have:=hf.2.2.2.1; simpa using this);simp only [jQ,jL,jJ] at e2;simp only [e2,Qe]; exact ⟨_,rfl⟩
theorem depth_loop:∀ (s p:List Qa) (d k:Int) (sh:List Int) (b:Int) (st:List Int) (ax am:Int) (pe:List Int),smCs s→p.length+s.length≤600 →
  ∃ o,Zd (⟨k,sh,b,st,ax,am,pe,p++s⟩,d,(p.length:Int))=some o
 | [],p,d,k,sh,b,st,ax,am,pe,h1,h2=>by
  rw [Zd]; simp only [Q4,if_false];exact ⟨_,rfl⟩
 | x::s,p,d,k,sh,b,st,ax,am,pe,h1,h2=>by
  rw [Zd];rw [smCs] at h1;obtain ⟨v,e⟩:=depth_ok x h1.1;obtain ⟨o,e'⟩:=depth_loop s (p++[x]) (if d < v then v else d) k sh b st ax am pe h1.2 (by simp at h2 ⊢; omega);rw [← Qr] at e';simp only [QU,if_true,Qy,Qe,e,YF h2,e'];exact ⟨_,rfl⟩
end
def pmI:List Int→Int
 | []=>1
 | n::s=>(if n < 1 then 1 else n) * pmI s
theorem small_L1 (most:Int) (hm:0≤most∧most≤1000000):∀ (s p:List Int) (v:Int),p.length+s.length≤600→(∀ n∈s,n≤65536)→1≤v→v≤100000000→∃ o,Zx (p++s,most,v,(p.length:Int))=some o∧(o=.inr ()→s=[]∨v * pmI s≤100 * most)
 | [],p,v,h,hd,h1,h2=>by
  refine ⟨.inr (),?_,fun _=>Or.inl rfl⟩; rw [Zx]; simp only [Q4,if_false]
 | x::s,p,v,h,hd,h1,h2=>by
  rw [Zx];have w1:W (100 * most)=100 * most:=W_ok y5 y5;have hx:=hd x (jM ..);have hx2:1≤(if x < 1 then 1 else x)∧(if x < 1 then 1 else x)≤65536:=by split <;> omega
  have b1:=Int.mul_le_mul h2 hx2.2 y5 y5;have b2:=Int.mul_le_mul h1 hx2.1 y5 y5;have w2:W (v * (if x < 1 then 1 else x))=v * (if x < 1 then 1 else x):=W_ok y5 y5;simp only [QU,if_true,Qy,Qe,YF h,w1,w2];by_cases hg:v * (if x < 1 then 1 else x) > 100 * most
  ·exact ⟨_,if_pos hg,fun h=>by cases h⟩
  ·obtain ⟨o,e,ho⟩:=small_L1 most hm s (p++[x]) (v * (if x < 1 then 1 else x)) (by simp at h ⊢; omega) (fun n hn=>hd n (jG _ hn)) y5 y5;rw [← Qr] at e;rw [if_neg hg];refine ⟨o,e,fun h=>Or.inr ?_⟩;rw [pmI,← Int.mul_assoc];rcases ho h with rfl|h
   ·rw [pmI,Int.mul_one]; omega
   ·exact h
def smallS (m:Int) (l:List Int):Prop:=l.length≤6∧checkR l=0∧prodI l≤m∧(l=[]∨pmI l≤100 * m)
theorem small_ok (l:List Int) (most:Int) (hm:0≤most∧most≤1000000) (h:l.length≤40):∃ b,Xg (l,most)=some b∧(b=true→smallS most l):=by
 have hS:Sm l.length:=Sm_of (show l.length≤1000 by omega);simp only [Xg,Check_ok _ hS,Cells_ok _ hS,Qe,ite_some];by_cases g1:(l.length:Int) > 6
 ·exact ⟨false,by simp [g1],fun h=>by cases h⟩
 by_cases g2:checkR l=0
 ·have hc:cellsR l=prodI l:=by rw [cellsR,if_pos g2]
  by_cases g3:cellsR l > most
  ·exact ⟨false,by simp [g1,g2,g3],fun h=>by cases h⟩
  ·obtain ⟨o,e,ho⟩:=small_L1 most hm l [] 1 y6 (fun n hn=>((checkR_ok g2).2.2 n hn).2) y5 y5;have e':Zx (l,most,1,0)=some o:=e;simp only [g1,g2,g3,e',if_false,bne_self_eq_false,j6,zY,Qe];cases o with
   | inl _=>exact ⟨_,rfl,fun h=>by cases h⟩
   | inr _=>exact ⟨_,rfl,fun _=>⟨by omega,g2,by omega,by rcases ho rfl with h|h; exact Or.inl h; exact Or.inr y5⟩⟩
 ·exact ⟨false,by simp [g1,g2],fun h=>by cases h⟩
mutual
def cellsF (m:Int):Qa→Prop
 | ⟨k,sh,b,st,ax,am,pe,ks⟩=>smallS m sh∧cellsFs m ks
def cellsFs (m:Int):List Qa→Prop
 | []=>True
 | k::ks=>cellsF m k∧cellsFs m ks
end
theorem cellsFs_mem {m:Int}:∀ {l:List Qa},cellsFs m l→∀ k∈l,cellsF m k
 | x::l,h,k,hk=>by
  rw [cellsFs] at h;rcases List.mem_cons.1 hk with rfl|hk
  ·exact h.1
  ·exact cellsFs_mem h.2 k hk
 | [],_,_,hk=>by cases hk
theorem cellsF_f {m:Int} {c:Qa} (h:cellsF m c):smallS m c.shape∧∀ k∈c.kids,cellsF m k:=by
 cases c; rw [cellsF] at h; exact ⟨h.1,cellsFs_mem h.2⟩
mutual
theorem cells_ok (m:Int) (hm:0≤m∧m≤1000000):∀ (c:Qa),smC c→∃ d,Yl (c,m)=some d∧(d=true→cellsF m c)
 | ⟨k,sh,b,st,ax,am,pe,ks⟩,h=>by
  have hf:=smC_f h;rw [Yl];obtain ⟨v,e,hv⟩:=small_ok sh m hm hf.1;obtain ⟨o,e2,ho⟩:=cells_loop m hm ks [] k sh b st ax am pe hf.2.2.2.2 (by have:=hf.2.2.2.1; simpa using this);simp only [jQ,jL,jJ] at e2;simp only [e,e2,Qe];cases v
  ·exact ⟨_,rfl,fun h=>by cases h⟩
  ·cases o
   ·exact ⟨_,rfl,fun h=>by cases h⟩
   ·exact ⟨_,rfl,fun _=>by rw [cellsF]; exact ⟨hv rfl,ho rfl⟩⟩
theorem cells_loop (m:Int) (hm:0≤m∧m≤1000000):∀ (s p:List Qa) (k:Int) (sh:List Int) (b:Int) (st:List Int) (ax am:Int) (pe:List Int),smCs s→p.length+s.length≤600 →
  ∃ o,Ze (⟨k,sh,b,st,ax,am,pe,p++s⟩,m,(p.length:Int))=some o∧(o=.inr ()→cellsFs m s)
 | [],p,k,sh,b,st,ax,am,pe,h1,h2=>by
  rw [Ze]; simp only [Q4,if_false];exact ⟨_,rfl,fun _=>trivial⟩
 | x::s,p,k,sh,b,st,ax,am,pe,h1,h2=>by
  rw [Ze];rw [smCs] at h1;obtain ⟨v,e,hv⟩:=cells_ok m hm x h1.1;obtain ⟨o,e',ho⟩:=cells_loop m hm s (p++[x]) k sh b st ax am pe h1.2 (by simp at h2 ⊢; omega);rw [← Qr] at e';simp only [QU,if_true,Qy,Qe,e,YF h2,e'];cases v
  ·exact ⟨_,rfl,fun h=>by cases h⟩
  ·exact ⟨o,rfl,fun h=>by rw [cellsFs]; exact ⟨hv rfl,ho h⟩⟩
end
theorem Small_ok (c:Qa) (bs:List (List Int)) (m:Int) (hm:0≤m∧m≤1000000):∃ b,Xi (c,bs,m)=some b∧(b=true→smC c∧nodesF bs c∧cellsF m c∧(szC c:Int)≤60∧bs.length≤20):=by
 simp only [Xi];have eta:(⟨c.kind,c.shape,c.buffer,c.starts,c.axis,c.amount,c.perm,c.kids⟩:Qa)=c:=by cases c; rfl
 try rw [eta]
 by_cases h1:(bs.length:Int)≤20
 ·obtain ⟨b,e,hb⟩:=Few_ok c 60 y5 y5;simp only [h1,if_true,e,Qe];cases b with
  | false=>exact ⟨false,by simp [Qe],fun h=>by cases h⟩
  | true =>
   obtain ⟨hs,hz⟩:=hb rfl;obtain ⟨d,e2⟩:=depth_ok c hs;obtain ⟨v,e3,hv⟩:=nodes_ok bs c hs;obtain ⟨x,e4,hx⟩:=cells_ok m hm c hs;simp only [if_true,X4,e2,Qe];by_cases hd:d≤300
   ·simp only [hd,if_true,e3,Qe];cases v with
    | false=>exact ⟨false,by simp [Qe],fun h=>by cases h⟩
    | true =>
     simp only [if_true,e4,Qe];exact ⟨x,rfl,fun h=>⟨hs,hv rfl,hx h,hz,by omega⟩⟩
   ·simp only [hd,if_false,Qe,j6];exact ⟨false,rfl,fun h=>by cases h⟩
 ·exact ⟨false,by simp [h1,Qe],fun h=>by cases h⟩
theorem prodI_zero_iff {s:List Int} (h:∀ n∈s,0≤n) (hz:prodI s≠0):∀ n∈s,1≤n:=fun n hn=>by
 have h0:=h n hn;rcases Int.lt_or_eq_of_le h0 with g|g
 ·omega
 ·subst g; exact absurd (prodI_zero hn) hz
theorem app_le {α:Type} {b:Nat} {l es:List α} (h:l.length+es.length≤100000000) (hb:b≤1000):app b l es=some (l++es):=app_ok (by
 have h1:(l.length+es.length) * b≤100000000 * 1000:=Nat.mul_le_mul h hb;have h2:100000000 * 1000≤room:=by decide +kernel
 omega)
def rowI (n:Int) (a:List Int):List (List Int):=(List.range n.toNat).map fun (k:Nat)=>a++[(k:Int)]
def extI (out:List (List Int)) (n:Int):List (List Int):=out.flatMap (rowI n)
def allL:List Int→List (List Int)
 | []=>[[]]
 | n::s=>(List.range n.toNat).flatMap fun (k:Nat)=>(allL s).map ((k:Int)::·)
theorem foldl_ext:∀ (s:List Int) (out:List (List Int)),s.foldl extI out=out.flatMap fun a=>(allL s).map (a++·)
 | [],out=>by
  simp only [List.foldl_nil,allL,zS,jU,List.map_nil];induction out with
  | nil=>rfl
  | cons a o ih=>rw [List.flatMap_cons,← ih]; rfl
 | n::s,out=>by
  rw [List.foldl_cons,foldl_ext s,extI,List.flatMap_assoc];congr 1
  funext a
  rw [rowI,List.flatMap_map,allL,List.map_flatMap];congr 1
  funext k
  rw [zD];congr 1
  funext x
  simp
theorem allI_eq (s:List Int):s.foldl extI [[]]=allL s:=by rw [foldl_ext]; simp
def pm:List Int→Nat
 | []=>1
 | n::s=>max n.toNat 1 * pm s
theorem pm_pos:∀ s:List Int,1≤pm s
 | []=>j7 _
 | n::s=>by
  have:=pm_pos s;rw [pm];exact Nat.mul_le_mul (show 1≤max n.toNat 1 by omega) this
theorem rowI_len (n:Int) (a:List Int):(rowI n a).length=n.toNat:=by simp [rowI]
theorem extI_len (n:Int):∀ out:List (List Int),(extI out n).length=out.length * n.toNat
 | []=>by simp [extI]
 | a::o=>by
  have:=extI_len n o;unfold extI at this ⊢;rw [List.flatMap_cons,jV,rowI_len,this,zE,Nat.add_mul,Nat.one_mul]; omega
theorem mem_ext_len {out:List (List Int)} {n:Int} {m:Nat} (h:∀ a∈out,a.length=m):∀ a∈extI out n,a.length=m+1:=fun a ha=>by
 unfold extI at ha;obtain ⟨b,hb,hc⟩:=List.mem_flatMap.1 ha;unfold rowI at hc;obtain ⟨k,_,rfl⟩:=List.mem_map.1 hc;simp [h b hb]
theorem mem_allL:∀ {s x:List Int},x∈allL s↔vld s x=true
 | [],x=>by
  cases x with
  | nil=>simp [allL,vld]
  | cons a x=>simp [allL,vld]
 | n::s,x=>by
  rw [allL,List.mem_flatMap];constructor
  ·rintro ⟨k,hk,h⟩
   obtain ⟨y,hy,rfl⟩:=List.mem_map.1 h;have:=List.mem_range.1 hk;simp only [vld,jE,zA];exact ⟨by omega,mem_allL.1 hy⟩
  ·intro h;cases x with
   | nil=>cases h
   | cons a x =>
    simp only [vld,jE,zA] at h;refine ⟨a.toNat,List.mem_range.2 y5,List.mem_map.2 ⟨x,mem_allL.2 h.2,?_⟩⟩;rw [Int.toNat_of_nonneg h.1.1]
theorem flat_len {α:Type} (f:Nat→List α) (c:Nat) (h:∀ k,(f k).length=c):∀ m:Nat,((List.range m).flatMap f).length=m * c
 | 0=>by simp
 | m+1=>by rw [List.range_succ,List.flatMap_append,jV,flat_len f c h m]; simp [h,Nat.add_mul]
theorem allL_len:∀ {s:List Int},(∀ n∈s,0≤n)→((allL s).length:Int)=prodI s
 | [],_=>by simp [allL,prodI]
 | n::s,h=>by
  have ih:=allL_len (s:=s) fun m hm=>h m (jG _ hm)
  have h0:=h n (jM ..);rw [allL,flat_len _ (allL s).length (fun k=>by simp),Int.natCast_mul,ih,prodI_cons,Int.toNat_of_nonneg h0]
theorem flat_get {α:Type} (f:Nat→List α) (c:Nat) (h:∀ k,(f k).length=c) (hc:1≤c):∀ (m j:Nat),j < m * c→((List.range m).flatMap f)[j]? = (f (j / c))[j % c]?
 | 0,j,hj=>by simp at hj
 | m+1,j,hj=>by
  rw [List.range_succ,List.flatMap_append,jT];have hl:=flat_len f c h m;rw [hl];by_cases hlt:j < m * c
  ·rw [if_pos hlt]; exact flat_get f c h hc m j hlt
  ·rw [if_neg hlt];have e1:j / c=m:=Nat.div_eq_of_lt_le y5 y5
   have e2:j % c=j - m * c:=by
    have:=Nat.div_add_mod j c;rw [e1,Nat.mul_comm] at this;omega
   rw [e1,e2]; simp
theorem allL_get:∀ {s:List Int},(∀ n∈s,1≤n)→∀ j:Nat,(j:Int) < prodI s→(allL s)[j]? = some (dig s (j:Int))
 | [],_,j,hj=>by
  have:j=0:=by simp [prodI] at hj; omega
  subst this; rfl
 | n::s,h,j,hj=>by
  have hs:∀ m∈s,1≤m:=fun m hm=>h m (jG _ hm)
  have h0:=h n (jM ..);have hl:=allL_len (s:=s) fun m hm=>by have:=hs m hm; omega
  have hp:=prodI_pos hs;rw [prodI_cons] at hj;have hc:1≤(allL s).length:=by omega
  have hj2:j < n.toNat * (allL s).length:=by
   have:((n.toNat * (allL s).length:Nat):Int)=n * prodI s:=by rw [Int.natCast_mul,hl,Int.toNat_of_nonneg y5]
   omega
  rw [allL,flat_get _ (allL s).length (fun k=>by simp) hc _ _ hj2,jD];have hm:((j % (allL s).length:Nat):Int)=(j:Int) % prodI s:=by rw [Int.natCast_emod,hl]
  have hd:((j / (allL s).length:Nat):Int)=(j:Int) / prodI s:=by rw [Int.natCast_ediv,hl]
  rw [allL_get hs (j % (allL s).length) (by rw [hm]; exact Int.emod_lt_of_pos _ y5),jN,hm,hd,dig]
theorem pm_pmI:∀ s:List Int,((pm s:Nat):Int)=pmI s
 | []=>rfl
 | n::s=>by
  rw [pm,pmI,Int.natCast_mul,pm_pmI s];congr 1;split <;> omega
theorem small_pm {m:Int} {s:List Int} (h:smallS m s) (hm:1≤m):(pm s:Int)≤100 * m:=by
 rcases h.2.2.2 with rfl|h
 ·simp [pm]; omega
 ·rw [pm_pmI]; exact h
def dotF:List Int→List Int→Int→Int
 | a::s,b::t,x=>dotF s t (W (x+W (a * b)))
 | _,_,x=>x
def wkB:List Int→List Int→List Int→Prop
 | [],[],[]=>True
 | n::s,l::lo,h::hi=>(0≤l∧l≤h∧h≤n)∧wkB s lo hi
 | _,_,_=>False
def okB:List Int→List Int→List Int→Prop
 | [],[],[]=>True
 | n::s,l::lo,h::hi=>(0≤l∧l < h∧h≤n)∧okB s lo hi
 | _,_,_=>False
def fullB:List Int→List Int→Bool
 | l::lo,h::hi=>decide (l < h) && fullB lo hi
 | _,_=>true
def difL:List Int→List Int→List Int
 | l::lo,h::hi=>(h - l)::difL lo hi
 | _,_=>[]
theorem wk_len:∀ {s lo hi:List Int},wkB s lo hi→lo.length=s.length∧hi.length=s.length
 | [],[],[],_=>⟨rfl,rfl⟩
 | n::s,l::lo,h::hi,H=>by have:=wk_len H.2; simp [this]
 | [],_::_,_,h=>by simp [wkB] at h
 | [],[],_::_,h=>by simp [wkB] at h
 | _::_,[],_,h=>by simp [wkB] at h
 | _::_,_::_,[],h=>by simp [wkB] at h
theorem wk_ok:∀ {s lo hi:List Int},wkB s lo hi→fullB lo hi=true→okB s lo hi
 | [],[],[],_,_=>trivial
 | n::s,l::lo,h::hi,H,f=>by
  simp only [fullB,jE,zA] at f;obtain ⟨⟨k1,k2,k3⟩,k4⟩:=H;exact ⟨⟨k1,f.1,k3⟩,wk_ok k4 f.2⟩
 | [],_::_,_,h,_=>by simp [wkB] at h
 | [],[],_::_,h,_=>by simp [wkB] at h
 | _::_,[],_,h,_=>by simp [wkB] at h
 | _::_,_::_,[],h,_=>by simp [wkB] at h
theorem dif_le:∀ {s lo hi:List Int},okB s lo hi→1≤prodI (difL lo hi)∧prodI (difL lo hi)≤prodI s
 | [],[],[],_=>⟨Int.le_refl _,Int.le_refl _⟩
 | n::s,l::lo,h::hi,H=>by
  obtain ⟨⟨k1,k2,k3⟩,k4⟩:=H;obtain ⟨i1,i2⟩:=dif_le k4;rw [difL,prodI_cons,prodI_cons];have a:=Int.mul_le_mul (show 1≤h - l by omega) i1 y5 y5;have b:=Int.mul_le_mul (show h - l≤n by omega) i2 y5 y5;omega
 | [],_::_,_,h=>by simp [okB] at h
 | [],[],_::_,h=>by simp [okB] at h
 | _::_,[],_,h=>by simp [okB] at h
 | _::_,_::_,[],h=>by simp [okB] at h
theorem gC_L1:∀ (lo hi pl ph:List Int),pl.length=ph.length→lo.length=hi.length→pl.length+lo.length≤600→Z5 (pl++lo,ph++hi,(pl.length:Int))=some (if fullB lo hi then .inr () else .inl ())
 | [],[],pl,ph,h1,h2,h=>by
  rw [Z5];simp only [Q4,if_false]; rfl
 | l::lo,h::hi,pl,ph,h1,h2,hl=>by
  rw [Z5];have i2:idx (ph++h::hi) (pl.length:Int)=some h:=by rw [h1]; exact Qy
  have e:=gC_L1 lo hi (pl++[l]) (ph++[h]) (by simp [h1]) (by simpa using h2) (by simp at hl ⊢; omega);rw [← Qr,← Qr] at e;simp only [QU,if_true,i2,Qy,Qe,YF hl,e,fullB];by_cases g:l < h
  ·rw [if_neg (show ¬ l≥h by omega)]; simp only [g,decide_true,Bool.true_and]
  ·rw [if_pos (show l≥h by omega)]; simp only [g,zY,Bool.false_and]; rfl
 | [],_::_,_,_,_,h,_=>by cases h
 | _::_,[],_,_,_,h,_=>by cases h
theorem okB_pos:∀ {s lo hi:List Int},okB s lo hi→∀ n∈s,1≤n
 | [],_,_,_,n,hn=>by simp at hn
 | m::s,l::lo,h::hi,H,n,hn=>by
  obtain ⟨⟨k1,k2,k3⟩,k4⟩:=H;rcases List.mem_cons.1 hn with rfl|hn
  ·omega
  ·exact okB_pos k4 n hn
 | _::_,[],_,h,_,_=>by simp [okB] at h
 | _::_,_::_,[],h,_,_=>by simp [okB] at h
theorem gC_L2:∀ (s lo hi pl ph:List Int) (v:Int),okB s lo hi→pl.length=ph.length→pl.length+lo.length≤600→1≤v→v * prodI s≤65536→Z6 (pl++lo,ph++hi,v,(pl.length:Int))=some (v * prodI (difL lo hi))
 | [],[],[],pl,ph,v,H,h1,h,hv,hP=>by
  rw [Z6];simp only [Q4,if_false,difL,prodI_nil,Int.mul_one]
 | n::s,l::lo,h::hi,pl,ph,v,H,h1,hl,hv,hP=>by
  rw [Z6];have hps:=prodI_pos (fun m hm=>okB_pos H m (jG _ hm));obtain ⟨⟨k1,k2,k3⟩,k4⟩:=H;have i2:idx (ph++h::hi) (pl.length:Int)=some h:=by rw [h1]; exact Qy
  rw [prodI_cons,← Int.mul_assoc] at hP;have b0:v * (h - l)≤v * n:=Int.mul_le_mul_of_nonneg_left y5 y5;have b1:1≤v * (h - l):=by have:=Int.mul_le_mul hv (show 1≤h - l by omega) y5 y5; omega
  have b2:(v * n) * 1≤v * n * prodI s:=Int.mul_le_mul_of_nonneg_left hps y5;have b3:1 * n≤v * n:=Int.mul_le_mul_of_nonneg_right hv y5;have b4:v * (h - l) * prodI s≤v * n * prodI s:=Int.mul_le_mul_of_nonneg_right b0 y5;have w1:W (h - l)=h - l:=W_ok y5 y5;have w2:W (v * (h - l))=v * (h - l):=W_ok y5 y5;have e:=gC_L2 s lo hi (pl++[l]) (ph++[h]) (v * (h - l)) k4 (by simp [h1]) (by simp at hl ⊢; omega) b1 y5;rw [← Qr,← Qr] at e;simp only [QU,if_true,i2,Qy,Qe,YF hl,w1,w2,e,difL,prodI_cons,Int.mul_assoc]
 | [],_::_,_,_,_,_,h,_,_,_,_=>by simp [okB] at h
 | [],[],_::_,_,_,_,h,_,_,_,_=>by simp [okB] at h
 | _::_,[],_,_,_,_,h,_,_,_,_=>by simp [okB] at h
 | _::_,_::_,[],_,_,_,h,_,_,_,_=>by simp [okB] at h
def cntB (lo hi:List Int):Int:=if fullB lo hi then prodI (difL lo hi) else 0
theorem gCount {s lo hi:List Int} (hP:prodI s≤65536) (h1:lo.length=hi.length) (hl:lo.length≤600) (H:fullB lo hi=true→okB s lo hi):XP (lo,hi)=some (cntB lo hi):=by
 have e1:=gC_L1 lo hi [] [] rfl h1 (by simpa using hl);simp only [jQ,jL,jJ] at e1;unfold XP cntB;by_cases f:fullB lo hi=true
 ·have e2:=gC_L2 s lo hi [] [] 1 (H f) rfl (by simpa using hl) y5 y5;simp only [jQ,jL,jJ,Int.one_mul] at e2;simp only [e1,f,if_true,Qe,e2]
 ·simp only [e1,f,if_false,Qe]; rfl
theorem cnt_full {s lo hi:List Int} (H:fullB lo hi=true→okB s lo hi):(decide (cntB lo hi > 0))=fullB lo hi:=by
 unfold cntB;by_cases f:fullB lo hi=true
 ·have:=(dif_le (H f)).1;rw [if_pos f,f]; exact decide_eq_true y5
 ·rw [if_neg f,(Bool.not_eq_true _).mp f]; decide
def fullP (x:Qc):Bool:=fullB x.box.lo x.box.hi
def qkB (s lo hi:List Int):Prop:=lo.length=s.length∧hi.length=s.length∧(fullB lo hi=true→okB s lo hi)
theorem wk_qk {s lo hi:List Int} (h:wkB s lo hi):qkB s lo hi:=⟨(wk_len h).1,(wk_len h).2,wk_ok h⟩
theorem kept_L1 {s:List Int} (hP:prodI s≤65536) (hs:s.length≤600):∀ (l p:List Qc) (g:Nat) (out:List Qc),p.length+l.length≤100000→out.length≤p.length→(∀ x∈l,qkB s x.box.lo x.box.hi)→∃ g',QD (p++l,g,out,(p.length:Int))=some (g',out++l.filter fullP)
 | [],p,g,out,h,ho,hw=>by
  rw [QD];simp only [Q4,if_false];exact ⟨g,by simp⟩
 | x::l,p,g,out,h,ho,hw=>by
  rw [QD];have hx:=hw x (jM ..);obtain ⟨l1,l2,hx⟩:=hx;have hc:=gCount hP (l1.trans l2.symm) y5 hx;have hW:W ((p.length:Int)+1)=((p++[x]).length:Int):=by simp at h; rw [W_ok y5 y5]; simp
  simp only [QU,if_true,Qy,Qe,JE,Qah,hc,cnt_full hx,hW];by_cases f:fullB x.box.lo x.box.hi=true
  ·obtain ⟨g',e⟩:=kept_L1 hP hs l (p++[x]) (g+1) (out++[x]) (by simp at h ⊢; omega) y6 (fun y hy=>hw y (jG _ hy));rw [← Qr] at e;refine ⟨g',?_⟩;rw [if_pos f,app_le (by simp at h ⊢; omega) y5,Qe,e,List.filter_cons_of_pos (by exact f)];simp
  ·obtain ⟨g',e⟩:=kept_L1 hP hs l (p++[x]) g out (by simp at h ⊢; omega) y6 (fun y hy=>hw y (jG _ hy));rw [← Qr] at e;refine ⟨g',?_⟩;rw [if_neg f,e,List.filter_cons_of_neg (by exact f)]
theorem cmpL_tot:∀ {a b:List Int},a≠b→¬ cmpL a b < 0→cmpL b a < 0
 | [],[],h,_=>absurd rfl h
 | [],_::_,_,h=>by simp [cmpL] at h
 | _::_,[],_,_=>by simp [cmpL]
 | x::a,y::b,h,g=>by
  simp only [cmpL] at g ⊢;split at g
  ·exact absurd (show (-1:Int) < 0 by decide) g
  ·split at g
   ·rw [if_pos y5]; decide
   ·have e:x=y:=by omega
    subst e;rw [if_neg y5,if_neg y5];exact cmpL_tot (fun e=>h (by rw [e])) g
theorem ins_head (x:Qc):∀ l:List Qc,∃ z m,insT x l=z::m∧(z=x∨∃ m',l=z::m')
 | []=>⟨x,[],rfl,.inl rfl⟩
 | y::l=>by
  rw [insT];split
  ·exact ⟨y,_,rfl,.inr ⟨l,rfl⟩⟩
  ·exact ⟨x,_,rfl,.inl rfl⟩
theorem ins_strict (x:Qc):∀ l:List Qc,strictT l=true→(∀ y∈l,y.box.lo≠x.box.lo)→strictT (insT x l)=true
 | [],_,_=>rfl
 | y::l,h,hn=>by
  have hl:strictT l=true:=by
   cases l with
   | nil=>rfl
   | cons z l=>simp only [strictT,jE] at h; exact h.2
  rw [insT];by_cases g:cmpL y.box.lo x.box.lo < 0
  ·rw [if_pos g];have ih:=ins_strict x l hl (fun z hz=>hn z (jG _ hz));obtain ⟨z,m,e,hz⟩:=ins_head x l;rw [e] at ih ⊢;simp only [strictT,jE,zA];refine ⟨?_,ih⟩;rcases hz with rfl|⟨m',rfl⟩
   ·exact g
   ·simp only [strictT,jE,zA] at h; exact h.1
  ·rw [if_neg g];simp only [strictT,jE,zA];exact ⟨cmpL_tot (hn y (jM ..)) g,h⟩
theorem sort_strict:∀ {l:List Qc},l.Pairwise (fun a b=>a.box.lo≠b.box.lo)→strictT (sortT l)=true
 | [],_=>rfl
 | x::l,h=>by
  obtain ⟨h1,h2⟩:=List.pairwise_cons.1 h;exact ins_strict x (sortT l) (sort_strict h2) (fun y hy=>(h1 y ((sortT_perm l).mem_iff.1 hy)).symm)
theorem listed_ok {s:List Int} (hP:prodI s≤65536) (hs:s.length≤600) {l:List Qc} (hl:l.length≤100000) (hw:∀ x∈l,qkB s x.box.lo x.box.hi) (hd:(l.filter fullP).Pairwise fun a b=>a.box.lo≠b.box.lo):Ji l=some (sortT (l.filter fullP)):=by
 obtain ⟨g',e⟩:=kept_L1 hP hs l [] 0 [] (by simpa using hl) y7 hw;have e':QD (l,0,[],0)=some (g',l.filter fullP):=e;have hf:=List.length_filter_le fullP l
 have es:sortM (l.filter fullP)=some (sortT (l.filter fullP)):=by
  refine if_pos ⟨by omega,?_,sort_strict hd⟩;rw [j8];intro x hx;have:=(hw x (List.mem_filter.1 hx).1).1;exact decide_eq_true y5
 simp only [Ji,Yu,e',Qe,es];rw [guardM_ok (sortT_perm _).length_eq]; rfl
theorem W_in {n:Int} (h1:-1000000000000≤n) (h2:n≤1000000000000):W n=n:=W_ok y5 y5
theorem W_nat {n:Nat} (h:n≤1000000):W ((n:Int)+1)=((n+1:Nat):Int):=by rw [W_in y5 y5]; omega
theorem idx_of {α:Type} {l:List α} {i:Nat} {x:α} (h:l[i]? = some x):idx l (i:Int)=some x:=by
 obtain ⟨h1,h2⟩:=List.getElem?_eq_some_iff.1 h;rw [idx_ok h1,h2]
theorem mkS_ok (s:List Int) (h:s.length≤600):makeM 8 (s.length:Int) (0:Int)=some (List.replicate s.length 0):=by
 have:((s.length:Int) * 8≤(room:Int)):=by
  have:(1000:Nat) * 8≤room:=by decide +kernel
  omega
 simp [makeM,this]; omega
def wholeP (b:Int) (s:List Int):Qc:=⟨⟨List.replicate s.length 0,s⟩,⟨2,b,0,strd s,0,0,0⟩⟩
theorem wk_whole:∀ {s:List Int},(∀ n∈s,0≤n)→wkB s (List.replicate s.length 0) s
 | [],_=>trivial
 | n::s,h=>by
  rw [zE,List.replicate_succ];have:=h n (jM ..);exact ⟨⟨Int.le_refl _,this,Int.le_refl _⟩,wk_whole fun m hm=>h m (jG _ hm)⟩
theorem full_whole:∀ {s:List Int},(∀ n∈s,1≤n)→fullB (List.replicate s.length 0) s=true
 | [],_=>rfl
 | n::s,h=>by
  rw [zE,List.replicate_succ,fullB,full_whole fun m hm=>h m (jG _ hm)];have:=h n (jM ..);simp; omega
def inB:List Int→List Int→List Int→Bool
 | [],[],[]=>true
 | l::lo,h::hi,i::is=>(decide (l≤i) && decide (i < h)) && inB lo hi is
 | _,_,_=>false
def lessL:List Int→List Int→Bool
 | a::a',b::b'=>if a≠b then decide (a < b) else lessL a' b'
 | _,_=>false
theorem okB_len:∀ {s lo hi:List Int},okB s lo hi→lo.length=s.length∧hi.length=s.length
 | [],[],[],_=>⟨rfl,rfl⟩
 | n::s,l::lo,h::hi,H=>by have:=okB_len H.2; simp [this]
 | [],_::_,_,h=>by simp [okB] at h
 | [],[],_::_,h=>by simp [okB] at h
 | _::_,[],_,h=>by simp [okB] at h
 | _::_,_::_,[],h=>by simp [okB] at h
theorem W_l {p:List Int} {x:Int} (h:p.length≤100000):W ((p.length:Int)+1)=((p++[x]).length:Int):=by
 rw [W_in y5 y5]; simp
section
variable {s:List Int}
end
def frm (lo t n:Int):Int:=if t < (if W (lo - n) < 0 then 0 else W (lo - n)) then t else (if W (lo - n) < 0 then 0 else W (lo - n))
def til (lo hi t n:Int):Int:=if frm lo t n < (if t < W (hi - n) then t else W (hi - n)) then (if t < W (hi - n) then t else W (hi - n)) else frm lo t n
def clo:List Int→List Int→List Int→List Int
 | l::lo,t::ts,n::st=>frm l t n::clo lo ts st
 | _,_,_=>[]
def chi:List Int→List Int→List Int→List Int→List Int
 | l::lo,h::hi,t::ts,n::st=>til l h t n::chi lo hi ts st
 | _,_,_,_=>[]
theorem frm_in {lo t n:Int} (h:0≤t):0≤frm lo t n∧frm lo t n≤t:=by
 unfold frm;generalize W (lo - n)=x;split <;> split <;> omega
theorem til_in {lo hi t n:Int} (h:0≤t):frm lo t n≤til lo hi t n∧til lo hi t n≤t:=by
 have:=frm_in (lo:=lo) (n:=n) h;unfold til;generalize W (hi - n)=y;generalize frm lo t n=x at *;split <;> split <;> omega
theorem clip_wk:∀ {lo hi t st:List Int},lo.length=st.length→t.length=st.length→hi.length=st.length→(∀ n∈t,0≤n)→wkB t (clo lo t st) (chi lo hi t st)
 | [],[],[],[],_,_,_,_=>trivial
 | l::lo,h::hi,t::ts,n::st,e1,e2,e3,hp=>by
  have h0:=hp t (jM ..);have f:=frm_in (lo:=l) (n:=n) h0;have g:=til_in (lo:=l) (hi:=h) (n:=n) h0;exact ⟨⟨f.1,g.1,g.2⟩,clip_wk (by simpa using e1) (by simpa using e2) (by simpa using e3) fun m hm=>hp m (jG _ hm)⟩
 | _::_,_,_,[],h,_,_,_=>by simp at h
 | _,_::_,_,[],_,_,h,_=>by simp at h
 | _,_,_::_,[],_,h,_,_=>by simp at h
 | [],_,_,_::_,h,_,_,_=>by simp at h
 | _,[],_,_::_,_,_,h,_=>by simp at h
 | _,_,[],_::_,_,h,_,_=>by simp at h
def mxI (a b:Int):Int:=if a < b then b else a
def mnI (a b:Int):Int:=if b < a then b else a
def minusR:List Int→List Int→List Int→List Int→List (List Int × List Int)
 | a::al,b::ah,c::cl,d::ch=>(a::al,c::ah)::(d::al,b::ah)::(minusR al ah cl ch).map fun x=>(c::x.1,d::x.2)
 | _,_,_,_=>[]
def inBox:List Int→List Int→List Int→List Int→Prop
 | [],[],[],[]=>True
 | a::al,b::ah,c::cl,d::ch=>a≤c∧c≤d∧d≤b∧inBox al ah cl ch
 | _,_,_,_=>False
def fullX (b:QY):Bool:=fullB b.lo b.hi
theorem wk_inBox:∀ {s cl ch:List Int},wkB s cl ch→inBox (List.replicate s.length 0) s cl ch
 | [],[],[],_=>trivial
 | n::s,c::cl,d::ch,h=>by
  obtain ⟨⟨k1,k2,k3⟩,k4⟩:=h;rw [zE,List.replicate_succ];exact ⟨k1,k2,k3,wk_inBox k4⟩
 | [],_::_,_,h=>by simp [wkB] at h
 | [],[],_::_,h=>by simp [wkB] at h
 | _::_,[],_,h=>by simp [wkB] at h
 | _::_,_::_,[],h=>by simp [wkB] at h
def restB (s cl ch:List Int):List QY:=(if fullB cl ch then (minusR (List.replicate s.length 0) s cl ch).map fun x=>(⟨x.1,x.2⟩:QY) else [⟨List.replicate s.length 0,s⟩]).filter fullX
theorem minusR_len:∀ (al ah cl ch:List Int),(minusR al ah cl ch).length≤2 * al.length
 | a::al,b::ah,c::cl,d::ch=>by
  have:=minusR_len al ah cl ch;simp only [minusR,zE,jY]; omega
 | [],_,_,_=>by simp [minusR]
 | _::_,[],_,_=>by simp [minusR]
 | _::_,_::_,[],_=>by simp [minusR]
 | _::_,_::_,_::_,[]=>by simp [minusR]
theorem minusR_wk:∀ {ss al ah cl ch:List Int},wkB ss al ah→inBox al ah cl ch→∀ x∈minusR al ah cl ch,wkB ss x.1 x.2
 | n::ss,a::al,b::ah,c::cl,d::ch,⟨⟨k1,k2,k3⟩,k4⟩,⟨i1,i2,i3,i4⟩,x,hx=>by
  rw [minusR] at hx;rcases List.mem_cons.1 hx with rfl|hx
  ·exact ⟨⟨k1,i1,by omega⟩,k4⟩
  rcases List.mem_cons.1 hx with rfl|hx
  ·exact ⟨⟨by omega,i3,k3⟩,k4⟩
  obtain ⟨y,hy,rfl⟩:=List.mem_map.1 hx;exact ⟨⟨by omega,i2,by omega⟩,minusR_wk k4 i4 y hy⟩
 | [],[],[],_,_,_,_,x,hx=>by simp [minusR] at hx
 | _::_,_::_,_::_,[],_,_,h,_,_=>by simp [inBox] at h
 | _::_,_::_,_::_,_::_,[],_,h,_,_=>by simp [inBox] at h
 | [],_::_,_,_,_,h,_,_,_=>by simp [wkB] at h
 | [],[],_::_,_,_,h,_,_,_=>by simp [wkB] at h
 | _::_,[],_,_,_,h,_,_,_=>by simp [wkB] at h
 | _::_,_::_,[],_,_,h,_,_,_=>by simp [wkB] at h
theorem filter_map_cons (c d x:Int) (i:List Int) (l:List (List Int × List Int)) :
  (l.map fun y=>(c::y.1,d::y.2)).filter (fun y=>inB y.1 y.2 (x::i))=if c≤x∧x < d then (l.filter fun y=>inB y.1 y.2 i).map fun y=>(c::y.1,d::y.2) else []:=by
 rw [List.filter_map];by_cases h:c≤x∧x < d
 ·rw [if_pos h];congr 1;refine List.filter_congr fun y _=>?_
  simp [inB,h.1,h.2]
 ·rw [if_neg h]
  have:(l.filter ((fun y:List Int × List Int=>inB y.1 y.2 (x::i)) ∘ fun y=>(c::y.1,d::y.2)))=[]:=by
   refine List.filter_eq_nil_iff.2 fun y _=>?_
   simp only [Function.comp,inB,jE,zA];exact fun hh=>h hh.1
  rw [this]; rfl
theorem minus_parts:∀ (al ah cl ch i:List Int),inBox al ah cl ch→inB al ah i=true →
  (inB cl ch i=true→(minusR al ah cl ch).filter (fun y=>inB y.1 y.2 i)=[])∧(inB cl ch i=false→∃ q,(minusR al ah cl ch).filter (fun y=>inB y.1 y.2 i)=[q])
 | [],[],[],[],[],_,_=>⟨fun _=>rfl,fun h=>by simp [inB] at h⟩
 | a::al,b::ah,c::cl,d::ch,x::i,hb,hi=>by
  obtain ⟨h1,h2,h3,hb'⟩:=hb;simp only [inB,jE,zA] at hi;obtain ⟨ih1,ih2⟩:=minus_parts al ah cl ch i hb' hi.2;have e0:inB (a::al) (c::ah) (x::i)=decide (x < c):=by simp [inB,hi.1.1,hi.2]
  have e1:inB (d::al) (b::ah) (x::i)=decide (d≤x):=by simp [inB,hi.1.2,hi.2]
  have ec:inB (c::cl) (d::ch) (x::i)=(decide (c≤x) && decide (x < d) && inB cl ch i):=rfl;rw [minusR,List.filter_cons,List.filter_cons,filter_map_cons,ec];simp only [e0,e1];by_cases c1:x < c
  ·have n1:¬ d≤x:=by omega
   have n2:¬ (c≤x∧x < d):=by omega
   have n3:¬ c≤x:=by omega
   rw [if_neg n2];simp [c1,n1,n3]
  ·by_cases c2:d≤x
   ·have n2:¬ (c≤x∧x < d):=by omega
    have n3:¬ x < d:=by omega
    rw [if_neg n2];simp [c1,c2,n3]
   ·have y2:c≤x∧x < d:=by omega
    rw [if_pos y2];simp only [y2.1,y2.2,decide_true,Bool.true_and,c1,c2,zY];refine ⟨fun h=>by simp [ih1 h],fun h=>?_⟩;obtain ⟨q,hq⟩:=ih2 h;exact ⟨(c::q.1,d::q.2),by simp [hq]⟩
theorem inB_full:∀ {lo hi i:List Int},inB lo hi i=true→fullB lo hi=true
 | [],[],[],_=>rfl
 | l::lo,h::hi,x::i,H=>by
  simp only [inB,jE,zA] at H;simp only [fullB,jE,zA];exact ⟨by omega,inB_full H.2⟩
theorem okB_lo:∀ {s lo hi:List Int},okB s lo hi→vld s lo=true∧inB lo hi lo=true
 | [],[],[],_=>⟨rfl,rfl⟩
 | n::s,l::lo,h::hi,⟨⟨k1,k2,k3⟩,k4⟩=>by
  obtain ⟨i1,i2⟩:=okB_lo k4;simp only [vld,inB,i1,i2,Bool.and_true,jE,zA];omega
 | [],_::_,_,h=>by simp [okB] at h
 | [],[],_::_,h=>by simp [okB] at h
 | _::_,[],_,h=>by simp [okB] at h
 | _::_,_::_,[],h=>by simp [okB] at h
theorem vld_inB:∀ {s i:List Int},vld s i=true→inB (List.replicate s.length 0) s i=true
 | [],[],_=>rfl
 | n::s,x::i,h=>by
  simp only [vld,jE,zA] at h;simp only [zE,List.replicate_succ,inB,jE,zA];exact ⟨h.1,vld_inB h.2⟩
 | [],_::_,h=>by cases h
 | _::_,[],h=>by cases h
def hasP (i:List Int) (x:Qc):Bool:=inB x.box.lo x.box.hi i
theorem count_full (i:List Int) (l:List Qc):(l.filter fullP).countP (hasP i)=l.countP (hasP i):=by
 rw [List.countP_filter];congr 1
 funext x
 unfold hasP fullP;cases h:inB x.box.lo x.box.hi i with
 | false=>rfl
 | true=>simp [inB_full h]
theorem dist_of {s:List Int}:∀ {l:List Qc},(∀ x∈l,okB s x.box.lo x.box.hi)→(∀ i,vld s i=true→l.countP (hasP i)≤1)→l.Pairwise fun a b=>a.box.lo≠b.box.lo
 | [],_,_=>.nil
 | a::l,ho,hc=>by
  obtain ⟨v1,v2⟩:=okB_lo (ho a (jM ..));refine List.pairwise_cons.2 ⟨fun b hb e=>?_,dist_of (fun x hx=>ho x (jG _ hx)) fun i hi=>?_⟩
  ·have h1:=hc a.box.lo v1;rw [List.countP_cons_of_pos (by exact v2)] at h1;have h2:0 < l.countP (hasP a.box.lo):=List.countP_pos_iff.2 ⟨b,hb,by rw [e]; exact (okB_lo (ho b (jG _ hb))).2⟩;omega
  ·have:=hc i hi;rw [List.countP_cons] at this;omega
def fillA:Qn:=⟨1,0,0,[],0,0,0⟩
def fillB (b:QY):Qc:=⟨b,fillA⟩
theorem rest_wk {s cl ch:List Int} (h0:∀ n∈s,0≤n) (hc:wkB s cl ch):∀ b∈restB s cl ch,wkB s b.lo b.hi:=fun b hb=>by
 have hb:=(List.mem_filter.1 hb).1;by_cases f:fullB cl ch=true
 ·rw [if_pos f] at hb;obtain ⟨x,hx,rfl⟩:=List.mem_map.1 hb;exact minusR_wk (wk_whole h0) (wk_inBox hc) x hx
 ·rw [if_neg f] at hb;simp only [jX] at hb;subst hb;exact wk_whole h0
theorem rest_len (s cl ch:List Int):(restB s cl ch).length≤2 * s.length+1:=by
 unfold restB;refine jW (List.length_filter_le _ _) ?_;split
 ·have:=minusR_len (List.replicate s.length 0) s cl ch;simp at this ⊢; omega
 ·simp
theorem rest_count {s cl ch i:List Int} (a:Qn) (hc:wkB s cl ch) (hi:vld s i=true):((⟨⟨cl,ch⟩,a⟩:Qc)::(restB s cl ch).map fillB).countP (hasP i)=1:=by
 have hw:=vld_inB hi
 have e:((restB s cl ch).map fillB).countP (hasP i)=((if fullB cl ch then (minusR (List.replicate s.length 0) s cl ch).map fun x=>(⟨x.1,x.2⟩:QY) else [⟨List.replicate s.length 0,s⟩])).countP (fun b=>inB b.lo b.hi i):=by
  rw [List.countP_map,restB,List.countP_filter];congr 1
  funext b
  show (inB b.lo b.hi i && fullB b.lo b.hi)=inB b.lo b.hi i
  cases h:inB b.lo b.hi i with
  | false=>rfl
  | true=>simp [inB_full h]
 rw [List.countP_cons,e];by_cases f:fullB cl ch=true
 ·rw [if_pos f,List.countP_map];have hm:=minus_parts (List.replicate s.length 0) s cl ch i (wk_inBox hc) hw;have e2:(minusR (List.replicate s.length 0) s cl ch).countP ((fun b:QY=>inB b.lo b.hi i) ∘ fun x=>(⟨x.1,x.2⟩:QY))=((minusR (List.replicate s.length 0) s cl ch).filter fun y=>inB y.1 y.2 i).length:=List.countP_eq_length_filter;rw [e2];unfold hasP;cases g:inB cl ch i with
  | true=>rw [hm.1 g]; simp
  | false=>obtain ⟨q,hq⟩:=hm.2 g; rw [hq]; simp
 ·rw [if_neg f];unfold hasP
  have g:inB cl ch i=false:=by
   cases g:inB cl ch i with
   | false=>rfl
   | true=>exact absurd (inB_full g) f
  simp [g,hw]
section
variable {s st:List Int}
end
theorem inB_set:∀ (l h i:List Int) (k:Nat) (a b x:Int),i[k]? = some x→l.length=i.length→h.length=i.length →
  inB (l.set k a) (h.set k b) i=(decide (a≤x) && decide (x < b) && inB (l.eraseIdx k) (h.eraseIdx k) (i.eraseIdx k))
 | [],_,i,k,a,b,x,hx,hl,_=>by
  have:i=[]:=List.length_eq_zero_iff.1 hl.symm
  subst this; simp at hx
 | _::_,[],i,k,a,b,x,hx,_,hh=>by
  have:i=[]:=List.length_eq_zero_iff.1 hh.symm
  subst this; simp at hx
 | _::_,_::_,[],k,a,b,x,hx,_,_=>by simp at hx
 | c::l,d::h,y::i,0,a,b,x,hx,hl,hh=>by
  simp at hx; subst hx;simp [inB]
 | c::l,d::h,y::i,k+1,a,b,x,hx,hl,hh=>by
  have ih:=inB_set l h i k a b x (by simpa using hx) (by simpa using hl) (by simpa using hh);simp only [List.set_cons_succ,inB,ih,List.eraseIdx_cons_succ];cases decide (c≤y) <;> cases decide (y < d) <;> cases decide (a≤x) <;> cases decide (x < b) <;> simp
theorem inB_at (l h i:List Int) (k:Nat) (a b x:Int) (hx:i[k]? = some x) (ha:l[k]? = some a) (hb:h[k]? = some b) (hl:l.length=i.length) (hh:h.length=i.length) :
  inB l h i=(decide (a≤x) && decide (x < b) && inB (l.eraseIdx k) (h.eraseIdx k) (i.eraseIdx k)):=by
 have s1:l.set k a=l:=by
  obtain ⟨hlt,e⟩:=List.getElem?_eq_some_iff.1 ha;rw [← e,List.set_getElem_self]
 have s2:h.set k b=h:=by
  obtain ⟨hlt,e⟩:=List.getElem?_eq_some_iff.1 hb;rw [← e,List.set_getElem_self]
 have:=inB_set l h i k a b x hx hl hh
 rwa [s1,s2] at this
theorem erase_set:∀ (l:List Int) (k:Nat) (a:Int),(l.set k a).eraseIdx k=l.eraseIdx k
 | [],k,a=>by simp
 | _::_,0,_=>by simp
 | _::l,k+1,a=>by simp [erase_set l k a]
theorem inB_move (l h i:List Int) (k:Nat) (a b x a' b' y:Int) (hx:i[k]? = some x) (ha:l[k]? = some a) (hb:h[k]? = some b) (hl:l.length=i.length) (hh:h.length=i.length) (q:Bool) (e:(decide (a'≤x) && decide (x < b'))=(q && (decide (a≤y) && decide (y < b)))) :
  inB (l.set k a') (h.set k b') i=(q && inB l h (i.set k y)):=by
 obtain ⟨hlt,_⟩:=List.getElem?_eq_some_iff.1 hx;rw [inB_set l h i k a' b' x hx hl hh,inB_at l h (i.set k y) k a b y (by simp [hlt]) ha hb (by simpa using hl) (by simpa using hh),erase_set,e];simp [Bool.and_assoc]
theorem wk_at:∀ {s l h:List Int} {k:Nat} {n:Int},wkB s l h→s[k]? = some n→∃ a b,l[k]? = some a∧h[k]? = some b∧0≤a∧a≤b∧b≤n
 | [],_,_,_,_,_,hk=>by simp at hk
 | n::s,a::l,b::h,0,_,hb,hk=>by
  simp at hk; subst hk;exact ⟨a,b,rfl,rfl,hb.1.1,hb.1.2.1,hb.1.2.2⟩
 | n::s,a::l,b::h,k+1,_,hb,hk=>by
  obtain ⟨x,y,e⟩:=wk_at hb.2 (by simpa using hk);exact ⟨x,y,by simpa using e⟩
 | _::_,[],_,_,_,h,_=>by simp [wkB] at h
 | _::_,_::_,[],_,_,h,_=>by simp [wkB] at h
theorem wk_set:∀ {s l h:List Int} {k:Nat} {a b m:Int},wkB s l h→0≤a→a≤b→b≤m→wkB (s.set k m) (l.set k a) (h.set k b)
 | [],[],[],_,_,_,_,_,_,_,_=>by simp [wkB]
 | n::s,c::l,d::h,0,a,b,m,hb,h1,h2,h3=>⟨⟨h1,h2,h3⟩,hb.2⟩
 | n::s,c::l,d::h,k+1,a,b,m,hb,h1,h2,h3=>⟨hb.1,wk_set hb.2 h1 h2 h3⟩
 | [],_::_,_,_,_,_,_,h,_,_,_=>by simp [wkB] at h
 | [],[],_::_,_,_,_,_,h,_,_,_=>by simp [wkB] at h
 | _::_,[],_,_,_,_,_,h,_,_,_=>by simp [wkB] at h
 | _::_,_::_,[],_,_,_,_,h,_,_,_=>by simp [wkB] at h
theorem set_same {s:List Int} {k:Nat} {n:Int} (h:s[k]? = some n):s.set k n=s:=by
 obtain ⟨hlt,e⟩:=List.getElem?_eq_some_iff.1 h;rw [← e,List.set_getElem_self]
theorem ok_wk:∀ {s l h:List Int},okB s l h→wkB s l h
 | [],[],[],_=>trivial
 | n::s,a::l,b::h,H=>⟨⟨H.1.1,by have:=H.1.2.1; omega,H.1.2.2⟩,ok_wk H.2⟩
 | [],_::_,_,h=>by simp [okB] at h
 | [],[],_::_,h=>by simp [okB] at h
 | _::_,[],_,h=>by simp [okB] at h
 | _::_,_::_,[],h=>by simp [okB] at h
theorem vld_at:∀ {s i:List Int} {k:Nat} {n:Int},vld s i=true→s[k]? = some n→∃ x,i[k]? = some x∧0≤x∧x < n
 | [],_,_,_,_,h=>by simp at h
 | _::_,[],_,_,h,_=>by simp [vld] at h
 | _::s,x::i,0,n,h,hk=>by
  simp at hk; subst hk;simp only [vld,jE,zA] at h;exact ⟨x,rfl,h.1.1,h.1.2⟩
 | _::s,_::i,k+1,n,h,hk=>by
  simp only [vld,jE] at h;obtain ⟨x,e,r⟩:=vld_at h.2 (by simpa using hk);exact ⟨x,by simpa using e,r⟩
theorem vld_set:∀ {s i:List Int} {k:Nat} {n y:Int},vld s i=true→0≤y→y < n→vld (s.set k n) (i.set k y)=true
 | [],[],_,_,_,_,_,_=>by simp [vld]
 | [],_::_,_,_,_,h,_,_=>by simp [vld] at h
 | _::_,[],_,_,_,h,_,_=>by simp [vld] at h
 | _::s,_::i,0,n,y,h,h0,hn=>by
  simp only [vld,jE] at h;simp [vld,h0,hn,h.2]
 | _::s,_::i,k+1,n,y,h,h0,hn=>by
  simp only [vld,jE] at h;simp only [List.set_cons_succ,vld,vld_set h.2 h0 hn,Bool.and_true]
  simpa using h.1
theorem inB_vld:∀ {s l h i:List Int},wkB s l h→inB l h i=true→vld s i=true
 | [],[],[],[],_,_=>rfl
 | [],[],[],_::_,_,h=>by simp [inB] at h
 | n::s,a::l,b::h,x::i,hb,hi=>by
  simp only [inB,jE,zA] at hi;obtain ⟨⟨k1,k2,k3⟩,k4⟩:=hb;simp only [vld,jE,zA];exact ⟨⟨by omega,by omega⟩,inB_vld k4 hi.2⟩
 | _::_,_::_,_::_,[],_,hi=>by simp [inB] at hi
 | [],_::_,_,_,h,_=>by simp [wkB] at h
 | [],[],_::_,_,h,_=>by simp [wkB] at h
 | _::_,[],_,_,h,_=>by simp [wkB] at h
 | _::_,_::_,[],_,h,_=>by simp [wkB] at h
def cutL (a f t:Int):Int:=if t < (if a < f then f else a) then t else (if a < f then f else a)
def cutH (a b f t:Int):Int:=if cutL a f t < (if t < b then t else b) then (if t < b then t else b) else cutL a f t
theorem cut_in {a b f t x d:Int} (h0:f≤t):(decide (cutL a f t+d≤x) && decide (x < cutH a b f t+d))=(decide (f≤x - d∧x - d < t) && (decide (a≤x - d) && decide (x - d < b))):=by
 have h:(cutL a f t+d≤x∧x < cutH a b f t+d)↔((f≤x - d∧x - d < t)∧(a≤x - d∧x - d < b)):=by
  unfold cutH cutL;split <;> split <;> split <;> (try split) <;> omega
 rw [← Bool.decide_and,← Bool.decide_and,← Bool.decide_and];exact decide_eq_decide.2 h
theorem cut_bnd {a b f t:Int} (h0:0≤a) (h1:a≤b) (h2:0≤f) (h3:f≤t):0≤cutL a f t∧cutL a f t≤cutH a b f t∧f≤cutL a f t∧cutL a f t≤t∧cutH a b f t≤t:=by
 unfold cutH cutL;split <;> split <;> split <;> (try split) <;> omega
theorem cut_hi {a b f t n:Int} (h1:a≤b) (h2:b≤n) (h3:f≤n):cutH a b f t≤n:=by
 unfold cutH cutL;split <;> split <;> split <;> (try split) <;> omega
theorem inB_win:∀ {t st lo hi i:List Int},vld t i=true→lo.length=t.length→hi.length=t.length→st.length=t.length→(∀ x∈lo,0≤x∧x≤65536)→(∀ x∈hi,0≤x∧x≤65536)→(∀ x∈st,-65536≤x∧x≤65536) →
  inB (clo lo t st) (chi lo hi t st) i=inB lo hi (List.zipWith (·+·) i st)
 | [],[],[],[],[],_,_,_,_,_,_,_=>rfl
 | n::t,m::st,a::lo,b::hi,x::i,hv,h1,h2,h3,p1,p2,p3=>by
  simp only [vld,jE,zA] at hv;obtain ⟨⟨v1,v2⟩,v3⟩:=hv;have ih:=inB_win (t:=t) (st:=st) (lo:=lo) (hi:=hi) (i:=i) v3 (by simpa using h1) (by simpa using h2) (by simpa using h3) (fun x hx=>p1 x (jG _ hx)) (fun x hx=>p2 x (jG _ hx)) (fun x hx=>p3 x (jG _ hx));obtain ⟨a1,a2⟩:=p1 a (jM ..);obtain ⟨b1,b2⟩:=p2 b (jM ..);obtain ⟨m1,m2⟩:=p3 m (jM ..);have w1:W (a - m)=a - m:=W_in y5 y5;have w2:W (b - m)=b - m:=W_in y5 y5
  have h:(frm a n m≤x∧x < til a b n m)↔(a≤x+m∧x+m < b):=by
   unfold til frm;rw [w1,w2];split <;> split <;> split <;> (try split) <;> (try split) <;> omega
  simp only [clo,chi,List.zipWith_cons_cons,inB,ih];congr 1;rw [← Bool.decide_and,← Bool.decide_and];exact decide_eq_decide.2 h
 | [],_::_,_,_,_,_,_,_,h,_,_,_=>by simp at h
 | [],_,_::_,_,_,_,h,_,_,_,_,_=>by simp at h
 | [],_,_,_::_,_,_,_,h,_,_,_,_=>by simp at h
 | [],_,_,_,_::_,h,_,_,_,_,_,_=>by simp [vld] at h
 | _::_,[],_,_,_,_,_,_,h,_,_,_=>by simp at h
 | _::_,_,[],_,_,_,h,_,_,_,_,_=>by simp at h
 | _::_,_,_,[],_,_,_,h,_,_,_,_=>by simp at h
 | _::_,_,_,_,[],h,_,_,_,_,_,_=>by simp [vld] at h
theorem wk_bnd:∀ {s l h:List Int},(∀ n∈s,n≤65536)→wkB s l h→(∀ x∈l,0≤x∧x≤65536)∧(∀ x∈h,0≤x∧x≤65536)
 | [],[],[],_,_=>⟨fun x hx=>by simp at hx,fun x hx=>by simp at hx⟩
 | n::s,a::l,b::h,hn,⟨⟨k1,k2,k3⟩,k4⟩=>by
  obtain ⟨i1,i2⟩:=wk_bnd (fun m hm=>hn m (jG _ hm)) k4;have:=hn n (jM ..);refine ⟨fun x hx=>?_,fun x hx=>?_⟩
  ·rcases List.mem_cons.1 hx with rfl|hx
   ·omega
   ·exact i1 x hx
  ·rcases List.mem_cons.1 hx with rfl|hx
   ·omega
   ·exact i2 x hx
 | [],_::_,_,_,h=>by simp [wkB] at h
 | [],[],_::_,_,h=>by simp [wkB] at h
 | _::_,[],_,_,h=>by simp [wkB] at h
 | _::_,_::_,[],_,h=>by simp [wkB] at h
def perI (perm i:List Int):List Int:=perm.map fun j=>i.getD j.toNat 0
def perLo:List Int→List Int→List Int→List Int
 | j::ps,a::l,lo=>perLo ps l (lo.set j.toNat (if lo.getD j.toNat 0 < a then a else lo.getD j.toNat 0))
 | _,_,lo=>lo
def perHi:List Int→List Int→List Int→List Int
 | j::ps,b::h,hi=>perHi ps h (hi.set j.toNat (if b < hi.getD j.toNat 0 then b else hi.getD j.toNat 0))
 | _,_,hi=>hi
theorem perLo_len:∀ (ps l lo:List Int),(perLo ps l lo).length=lo.length
 | [],_,_=>rfl
 | _::_,[],_=>rfl
 | j::ps,a::l,lo=>by rw [perLo,perLo_len]; simp
theorem perHi_len:∀ (ps h hi:List Int),(perHi ps h hi).length=hi.length
 | [],_,_=>rfl
 | _::_,[],_=>rfl
 | j::ps,a::h,hi=>by rw [perHi,perHi_len]; simp
theorem getD_at {l:List Int} {k:Nat} {a:Int} (h:l[k]? = some a):l.getD k 0=a:=by rw [jB,h]; rfl
theorem at_getD {l:List Int} {k:Nat} (h:k < l.length):l[k]? = some (l.getD k 0):=by simp [jB,h]
theorem inB_per:∀ (perm l h lo hi i:List Int),l.length=perm.length→h.length=perm.length→lo.length=i.length→hi.length=i.length→(∀ j∈perm,0≤j∧j.toNat < i.length) →
  inB (perLo perm l lo) (perHi perm h hi) i=(inB lo hi i && inB l h (perI perm i))
 | [],[],[],lo,hi,i,_,_,_,_,_=>by simp [perLo,perHi,perI,inB]
 | j::perm,a::l,b::h,lo,hi,i,h1,h2,h3,h4,hp=>by
  obtain ⟨j0,j1⟩:=hp j (jM ..);have ex:=at_getD j1;have el:=at_getD (l:=lo) (k:=j.toNat) y5;have eh:=at_getD (l:=hi) (k:=j.toNat) y5;rw [perLo,perHi,inB_per perm l h _ _ i (by simpa using h1) (by simpa using h2) (by simpa using h3) (by simpa using h4) fun j hj=>hp j (jG _ hj)]
  have e:=inB_move lo hi i j.toNat (lo.getD j.toNat 0) (hi.getD j.toNat 0) (i.getD j.toNat 0) (if lo.getD j.toNat 0 < a then a else lo.getD j.toNat 0) (if b < hi.getD j.toNat 0 then b else hi.getD j.toNat 0) (i.getD j.toNat 0) ex el eh h3 h4 (decide (a≤i.getD j.toNat 0) && decide (i.getD j.toNat 0 < b)) (by
   rw [← Bool.decide_and,← Bool.decide_and,← Bool.decide_and,← Bool.decide_and];refine decide_eq_decide.2 ?_;split <;> split <;> omega)
  rw [e,set_same ex];simp only [perI,zS,inB];cases (decide (a≤i.getD j.toNat 0) && decide (i.getD j.toNat 0 < b)) <;> simp
 | [],_::_,_,_,_,_,h,_,_,_,_=>by simp at h
 | [],_,_::_,_,_,_,_,h,_,_,_=>by simp at h
 | _::_,[],_,_,_,_,h,_,_,_,_=>by simp at h
 | _::_,_,[],_,_,_,_,h,_,_,_=>by simp at h
def wfA (r:Nat) (a:Qn):Prop:=a.kind=1∨(a.kind=2∨a.kind=3)∧a.strides.length=r
structure Inv (P:Qc→Prop) (s:List Int) (l:List Qc):Prop where
 box:∀ x∈l,okB s x.box.lo x.box.hi
 acc:∀ x∈l,wfA s.length x.access
 prp:∀ x∈l,P x
 cnt:∀ i,vld s i=true→l.countP (hasP i)=1
 srt:strictT l=true
structure Pre (P:Qc→Prop) (s:List Int) (l:List Qc):Prop where
 box:∀ x∈l,qkB s x.box.lo x.box.hi
 acc:∀ x∈l,wfA s.length x.access
 prp:∀ x∈l,fullP x=true→P x
 cnt:∀ i,vld s i=true→l.countP (hasP i)=1
theorem sub_len {α:Type} [DecidableEq α]:∀ {l m:List α},l.Nodup→(∀ x∈l,x∈m)→l.length≤m.length
 | [],_,_,_=>zN _
 | a::l,m,hn,hs=>by
  obtain ⟨h1,h2⟩:=List.nodup_cons.1 hn;have ha:=hs a (jM ..);have ih:=sub_len (m:=m.erase a) h2 fun x hx=>(List.mem_erase_of_ne (fun e=>h1 (by rw [← e]; exact hx))).2 (hs x (jG _ hx))
  rw [List.length_erase_of_mem ha] at ih;have:=List.length_pos_of_mem ha;simp only [zE]; omega
section
variable {P Q:Qc→Prop} {s s':List Int} {l L:List Qc}
theorem Inv.dist (h:Inv P s l):l.Pairwise fun a b=>a.box.lo≠b.box.lo:=dist_of h.box fun i hi=>by have:=h.cnt i hi; omega
theorem Inv.len (h:Inv P s l) (h0:∀ n∈s,0≤n):(l.length:Int)≤prodI s:=by
 rw [← allL_len h0];have hn:(l.map fun x=>x.box.lo).Nodup:=List.pairwise_map.2 h.dist
 have:=sub_len hn (m:=allL s) fun i hi=>by
  obtain ⟨x,hx,rfl⟩:=List.mem_map.1 hi;exact mem_allL.2 (okB_lo (h.box x hx)).1
 simp only [jY] at this;omega
theorem Inv.wk (h:Inv P s l):∀ x∈l,wkB s x.box.lo x.box.hi:=fun x hx=>ok_wk (h.box x hx)
theorem Inv.mono (h:Inv P s l) (hp:∀ x∈l,P x→Q x):Inv Q s l:=⟨h.box,h.acc,fun x hx=>hp x hx (h.prp x hx),h.cnt,h.srt⟩
theorem Pre.listed (h:Pre P s L) (hc:checkR s=0) (hL:L.length≤100000):Ji L=some (sortT (L.filter fullP))∧Inv P s (sortT (L.filter fullP)):=by
 obtain ⟨h1,h2,h3⟩:=checkR_ok hc
 have hok:∀ x∈L.filter fullP,okB s x.box.lo x.box.hi:=fun x hx=>by
  obtain ⟨k1,k2⟩:=List.mem_filter.1 hx;exact (h.box x k1).2.2 k2
 have hct:∀ i,vld s i=true→(L.filter fullP).countP (hasP i)=1:=fun i hi=>by rw [count_full]; exact h.cnt i hi
 have hd:=dist_of hok fun i hi=>by have:=hct i hi; omega
 have hp:=sortT_perm (L.filter fullP);refine ⟨listed_ok h2 y5 hL h.box hd,⟨fun x hx=>hok x (hp.mem_iff.1 hx),fun x hx=>h.acc x (List.mem_filter.1 (hp.mem_iff.1 hx)).1,fun x hx=>?_,fun i hi=>(hp.countP_eq _).trans (hct i hi),sort_strict hd⟩⟩;obtain ⟨k1,k2⟩:=List.mem_filter.1 (hp.mem_iff.1 hx);exact h.prp x k1 k2
end
theorem W_len {α:Type} {p:List α} {x:α} (h:p.length≤100000):W ((p.length:Int)+1)=((p++[x]).length:Int):=by
 rw [W_in y5 y5]; simp
theorem cnt_flat {i j:List Int} {f:Qc→List Qc}:∀ {l:List Qc},(∀ x∈l,(f x).countP (hasP i)=if hasP j x then 1 else 0)→(l.flatMap f).countP (hasP i)=l.countP (hasP j)
 | [],_=>rfl
 | x::l,h=>by
  rw [List.flatMap_cons,List.countP_append,h x (jM ..),cnt_flat fun y hy=>h y (jG _ hy),List.countP_cons];omega
theorem cnt_map {i j:List Int} {f:Qc→Qc} {l:List Qc} (h:∀ x∈l,hasP i (f x)=hasP j x):(l.map f).countP (hasP i)=l.countP (hasP j):=by
 rw [List.countP_map];exact List.countP_congr fun x hx=>by simp [h x hx]
def addA (a:Qn) (n:Int) (st:List Int):Qn :=
 if a.kind=1 then a else if a.kind=3 then ⟨a.kind,a.buffer,a.base,st,W (a.start+n),a.step,a.mod⟩ else ⟨a.kind,a.buffer,W (a.base+n),st,a.start,a.step,a.mod⟩
def shfA (a:Qn) (k:Nat) (n:Int):Qn:=addA a (W (n * a.strides.getD k 0)) a.strides
def flpA (a:Qn) (k:Nat) (n:Int):Qn:=addA a (W (W (n - 1) * a.strides.getD k 0)) (a.strides.set k (W (0 - a.strides.getD k 0)))
theorem add_kind (a:Qn) (n:Int) (st:List Int):(addA a n st).kind=a.kind:=by unfold addA; split <;> (try split) <;> rfl
theorem add_wf {r:Nat} {a:Qn} {n:Int} {st:List Int} (h:wfA r a) (hs:st.length=a.strides.length):wfA r (addA a n st):=by
 rcases h with h|⟨h1,h2⟩
 ·left; rw [add_kind]; exact h
 ·right;refine ⟨by rw [add_kind]; exact h1,?_⟩;unfold addA;rw [if_neg y5];split
  ·exact hs.trans h2
  ·exact hs.trans h2
theorem shf_wf {r:Nat} {a:Qn} {k:Nat} {n:Int} (h:wfA r a):wfA r (shfA a k n):=add_wf h rfl
theorem flp_wf {r:Nat} {a:Qn} {k:Nat} {n:Int} (h:wfA r a):wfA r (flpA a k n):=add_wf h y7
theorem clone_le {l:List Int} (h:l.length≤600):JF l=some l:=app_le y6 y5
theorem getD_el {l:List Int} {k:Nat} (h:k < l.length):l.getD k 0=l[k]:=by simp [jB,h]
def revP (k:Nat) (n:Int) (x:Qc):Qc:=⟨⟨x.box.lo.set k (n - x.box.hi.getD k 0),x.box.hi.set k (n - x.box.lo.getD k 0)⟩,flpA x.access k n⟩
theorem idx_at {l:List Int} {k:Nat} {a:Int} (h:l[k]? = some a):idx l (k:Int)=some a:=idx_of h
theorem lt_at {l:List Int} {k:Nat} {a:Int} (h:l[k]? = some a):k < l.length:=(List.getElem?_eq_some_iff.1 h).1
theorem rev_has {s i:List Int} {k:Nat} {n y:Int} {x:Qc} (hb:wkB s x.box.lo x.box.hi) (hk:s[k]? = some n) (hi:i[k]? = some y) (hl:s.length=i.length):hasP i (revP k n x)=hasP (i.set k (n - 1 - y)) x:=by
 obtain ⟨l1,l2⟩:=wk_len hb;obtain ⟨a,b,e1,e2,k0,k1,k2⟩:=wk_at hb hk;unfold hasP revP;simp only [getD_at e1,getD_at e2];rw [inB_move _ _ i k a b y (n - b) (n - a) (n - 1 - y) hi e1 e2 y5 y5 true ?_,Bool.true_and];rw [Bool.true_and,← Bool.decide_and,← Bool.decide_and];exact decide_eq_decide.2 y5
def movP (k:Nat) (f t d:Int) (x:Qc):Qc:=⟨⟨x.box.lo.set k (cutL (x.box.lo.getD k 0) f t+d),x.box.hi.set k (cutH (x.box.lo.getD k 0) (x.box.hi.getD k 0) f t+d)⟩,shfA x.access k (W (0 - d))⟩
theorem mov_has {s i:List Int} {k:Nat} {n f t d y:Int} {x:Qc} (hb:wkB s x.box.lo x.box.hi) (hk:s[k]? = some n) (h1:f≤t) (hi:i[k]? = some y) (hl:s.length=i.length):hasP i (movP k f t d x)=(decide (f≤y - d∧y - d < t) && hasP (i.set k (y - d)) x):=by
 obtain ⟨l1,l2⟩:=wk_len hb;obtain ⟨a,b,e1,e2,k0,k1,k2⟩:=wk_at hb hk;unfold hasP movP;simp only [getD_at e1,getD_at e2];exact inB_move _ _ i k a b y _ _ (y - d) hi e1 e2 y5 y5 _ (cut_in h1)
theorem mov_wk {s:List Int} {k:Nat} {n f t d m:Int} {x:Qc} (hb:wkB s x.box.lo x.box.hi) (hk:s[k]? = some n) (h0:0≤f) (h1:f≤t) (h2:0≤f+d) (h3:t+d≤m∨(f≤n∧n+d≤m)):wkB (s.set k m) (movP k f t d x).box.lo (movP k f t d x).box.hi:=by
 obtain ⟨a,b,e1,e2,k0,k1,k2⟩:=wk_at hb hk;obtain ⟨q1,q2,q3,q4,q5⟩:=cut_bnd k0 k1 h0 h1;unfold movP;simp only [getD_at e1,getD_at e2];refine wk_set hb y5 y5 ?_;rcases h3 with h3|⟨h3,h4⟩
 ·omega
 ·have:=cut_hi (a:=a) (b:=b) (f:=f) (t:=t) (n:=n) k1 k2 h3;omega
def rotP (k:Nat) (m n:Int) (x:Qc):List Qc:=[movP k m n (0 - m) x,movP k 0 m (n - m) x]
section
variable {P Q:Qc→Prop} {s:List Int} {l:List Qc} {k:Nat} {n:Int}
theorem Inv.len4 (h:Inv P s l) (hc:checkR s=0) (hP:prodI s≤20000):l.length≤20000:=by
 have:=h.len fun n hn=>((checkR_ok hc).2.2 n hn).1
 omega
theorem Rev_pre (h:Inv P s l) (hk:s[k]? = some n) (hQ:∀ x∈l,okB s x.box.lo x.box.hi→wfA s.length x.access→P x→Q (revP k n x)) :
  Pre Q s (l.map (revP k n)):=by

 refine ⟨fun y hy=>?_,fun y hy=>?_,fun y hy _=>?_,fun i hi=>?_⟩
 ·obtain ⟨x,hx,rfl⟩:=List.mem_map.1 hy;obtain ⟨a,b,e1,e2,k0,k1,k2⟩:=wk_at (h.wk x hx) hk;have:=wk_set (k:=k) (a:=n - b) (b:=n - a) (m:=n) (h.wk x hx) y5 y5 y5;rw [set_same hk] at this;simp only [revP,getD_at e1,getD_at e2];exact wk_qk this
 ·obtain ⟨x,hx,rfl⟩:=List.mem_map.1 hy;exact flp_wf (h.acc x hx)
 ·obtain ⟨x,hx,rfl⟩:=List.mem_map.1 hy;exact hQ x hx (h.box x hx) (h.acc x hx) (h.prp x hx)
 ·obtain ⟨y,ey,y0,y1⟩:=vld_at hi hk;rw [cnt_map fun x hx=>rev_has (h.wk x hx) hk ey (vld_len hi)];have:=vld_set (k:=k) (n:=n) (y:=n - 1 - y) hi y5 y5;rw [set_same hk] at this;exact h.cnt _ this
theorem Rot_pre {m:Int} (h:Inv P s l) (hk:s[k]? = some n) (h0:0≤m) (hm:m≤n) (hQ:∀ x∈l,okB s x.box.lo x.box.hi→wfA s.length x.access→P x→∀ y∈rotP k m n x,fullP y=true→Q y) :
  Pre Q s (l.flatMap (rotP k m n)):=by

 refine ⟨fun y hy=>?_,fun y hy=>?_,fun y hy hf=>?_,fun i hi=>?_⟩
 ·obtain ⟨x,hx,hy⟩:=List.mem_flatMap.1 hy;have hb:=h.wk x hx;simp only [rotP,List.mem_cons,List.not_mem_nil,or_false] at hy;have hs:=set_same hk;rcases hy with rfl|rfl
  ·have:=mov_wk (m:=n) (t:=n) (f:=m) (d:=0 - m) hb hk h0 hm y5 (.inl y5);rw [hs] at this;exact wk_qk this
  ·have:=mov_wk (m:=n) (t:=m) (f:=0) (d:=n - m) hb hk (Int.le_refl 0) h0 y5 (.inl y5);rw [hs] at this;exact wk_qk this
 ·obtain ⟨x,hx,hy⟩:=List.mem_flatMap.1 hy;simp only [rotP,List.mem_cons,List.not_mem_nil,or_false] at hy;rcases hy with rfl|rfl <;> exact shf_wf (h.acc x hx)
 ·obtain ⟨x,hx,hy⟩:=List.mem_flatMap.1 hy;exact hQ x hx (h.box x hx) (h.acc x hx) (h.prp x hx) y hy hf
 ·obtain ⟨y,ey,y0,y1⟩:=vld_at hi hk;have hl:=vld_len hi;have hs:=set_same hk;by_cases c:y < n - m
  ·rw [cnt_flat (j:=i.set k (y+m)) fun x hx=>?_]
   ·have:=vld_set (k:=k) (n:=n) (y:=y+m) hi y5 y5;rw [hs] at this;exact h.cnt _ this
   ·have hb:=h.wk x hx;have e1:=mov_has (f:=m) (t:=n) (d:=0 - m) hb hk hm ey hl;have e2:=mov_has (f:=0) (t:=m) (d:=n - m) hb hk h0 ey hl;rw [decide_eq_true (show m≤y - (0 - m)∧y - (0 - m) < n by omega),Bool.true_and,show y - (0 - m)=y+m by omega] at e1;rw [zX (show ¬ (0≤y - (n - m)∧y - (n - m) < m) by omega),Bool.false_and] at e2;simp only [rotP,List.countP_cons,List.countP_nil,e1,e2,j6,if_false,zW]
  ·rw [cnt_flat (j:=i.set k (y - (n - m))) fun x hx=>?_]
   ·have:=vld_set (k:=k) (n:=n) (y:=y - (n - m)) hi y5 y5;rw [hs] at this;exact h.cnt _ this
   ·have hb:=h.wk x hx;have e1:=mov_has (f:=m) (t:=n) (d:=0 - m) hb hk hm ey hl;have e2:=mov_has (f:=0) (t:=m) (d:=n - m) hb hk h0 ey hl;rw [zX (show ¬ (m≤y - (0 - m)∧y - (0 - m) < n) by omega),Bool.false_and] at e1;rw [decide_eq_true (show 0≤y - (n - m)∧y - (n - m) < m by omega),Bool.true_and] at e2;simp only [rotP,List.countP_cons,List.countP_nil,e1,e2,j6,if_false,zW,zV]
end
section
variable {P1 P2 Q:Qc→Prop} {s:List Int} {l1 l2:List Qc} {k:Nat} {n1 n2:Int}
theorem Cat_pre (h1:Inv P1 (s.set k n1) l1) (h2:Inv P2 (s.set k n2) l2) (hc:checkR s=0) (hc1:checkR (s.set k n1)=0) (hc2:checkR (s.set k n2)=0) (hk:s[k]? = some (n1+n2))
  (hQ1:∀ x∈l1,okB (s.set k n1) x.box.lo x.box.hi→wfA s.length x.access→P1 x→Q (movP k 0 65536 0 x)) (hQ2:∀ x∈l2,okB (s.set k n2) x.box.lo x.box.hi→wfA s.length x.access→P2 x→Q (movP k 0 65536 n1 x)) :
  Pre Q s (l1.map (movP k 0 65536 0)++l2.map (movP k 0 65536 n1)):=by
 obtain ⟨c1,c2,c3⟩:=checkR_ok hc;have hkl:k < s.length:=lt_at hk;have hk1:(s.set k n1)[k]? = some n1:=by simp [hkl]
 have hk2:(s.set k n2)[k]? = some n2:=by simp [hkl]
 have b1:=(checkR_ok hc1).2.2 n1 (jF hk1);have b2:=(checkR_ok hc2).2.2 n2 (jF hk2);have b3:=c3 _ (jF hk);have hset:∀ m:Int,(s.set k n1).set k m=s.set k m:=fun m=>by simp
 have hset2:∀ m:Int,(s.set k n2).set k m=s.set k m:=fun m=>by simp
 refine ⟨fun y hy=>?_,fun y hy=>?_,fun y hy _=>?_,fun i hi=>?_⟩
 ·rcases List.mem_append.1 hy with hy|hy
  ·obtain ⟨x,hx,rfl⟩:=List.mem_map.1 hy;have:=mov_wk (m:=n1+n2) (t:=65536) (f:=0) (d:=0) (h1.wk x hx) hk1 (Int.le_refl 0) y9 y9 (.inr ⟨b1.1,by omega⟩);rw [hset,set_same hk] at this;exact wk_qk this
  ·obtain ⟨x,hx,rfl⟩:=List.mem_map.1 hy;have:=mov_wk (m:=n1+n2) (t:=65536) (f:=0) (d:=n1) (h2.wk x hx) hk2 (Int.le_refl 0) y9 y5 (.inr ⟨b2.1,by omega⟩);rw [hset2,set_same hk] at this;exact wk_qk this
 ·rcases List.mem_append.1 hy with hy|hy
  ·obtain ⟨x,hx,rfl⟩:=List.mem_map.1 hy;have:=h1.acc x hx;rw [zR] at this;exact shf_wf this
  ·obtain ⟨x,hx,rfl⟩:=List.mem_map.1 hy;have:=h2.acc x hx;rw [zR] at this;exact shf_wf this
 ·rcases List.mem_append.1 hy with hy|hy
  ·obtain ⟨x,hx,rfl⟩:=List.mem_map.1 hy;have:=h1.acc x hx;rw [zR] at this;exact hQ1 x hx (h1.box x hx) this (h1.prp x hx)
  ·obtain ⟨x,hx,rfl⟩:=List.mem_map.1 hy;have:=h2.acc x hx;rw [zR] at this;exact hQ2 x hx (h2.box x hx) this (h2.prp x hx)
 ·obtain ⟨y,ey,y0,y1⟩:=vld_at hi hk;have hl:=vld_len hi;rw [List.countP_append]
  have f1:(l1.map (movP k 0 65536 0)).countP (hasP i)=l1.countP (hasP i):=cnt_map fun x hx=>by
   rw [mov_has (h1.wk x hx) hk1 y9 ey (by simpa using hl),Int.sub_zero,set_same ey,decide_eq_true (show 0≤y∧y < 65536 by omega),Bool.true_and]
  rw [f1];by_cases c:y < n1
  ·have v1:=vld_set (k:=k) (n:=n1) (y:=y) hi y0 c;rw [set_same ey] at v1;rw [h1.cnt i v1]
   have:(l2.map (movP k 0 65536 n1)).countP (hasP i)=0:=by
    rw [List.countP_eq_zero];intro z hz;obtain ⟨x,hx,rfl⟩:=List.mem_map.1 hz;rw [mov_has (h2.wk x hx) hk2 y9 ey (by simpa using hl),zX (show ¬ (0≤y - n1∧y - n1 < 65536) by omega),Bool.false_and];simp
   rw [this]
  ·have f0:l1.countP (hasP i)=0:=by
    rw [List.countP_eq_zero];intro x hx hh;have:=inB_vld (h1.wk x hx) hh;obtain ⟨z,ez,z0,z1⟩:=vld_at this hk1;rw [ey] at ez;simp only [j9] at ez;omega
   have v2:=vld_set (k:=k) (n:=n2) (y:=y - n1) hi y5 y5
   have f2:(l2.map (movP k 0 65536 n1)).countP (hasP i)=l2.countP (hasP (i.set k (y - n1))):=cnt_map fun x hx=>by
    rw [mov_has (h2.wk x hx) hk2 y9 ey (by simpa using hl),decide_eq_true (show 0≤y - n1∧y - n1 < 65536 by omega),Bool.true_and]
   rw [f0,f2,h2.cnt _ v2]
end
def perS:List Int→List Int→List Int→List Int
 | j::ps,c::st,out=>perS ps st (out.set j.toNat (W (W (0+out.getD j.toNat 0)+c)))
 | _,_,out=>out
theorem perS_len:∀ (ps st out:List Int),(perS ps st out).length=out.length
 | [],_,_=>rfl
 | _::_,[],_=>rfl
 | j::ps,c::st,out=>by rw [perS,perS_len]; simp
def perA (a:Qn) (perm:List Int) (r:Nat):Qn :=
 if a.kind=1 then a else ⟨a.kind,a.buffer,a.base,perS perm a.strides (List.replicate r 0),a.start,a.step,a.mod⟩
theorem perA_kind (a:Qn) (p:List Int) (r:Nat):(perA a p r).kind=a.kind:=by unfold perA; split <;> rfl
theorem per_wf {r0 r:Nat} {a:Qn} {p:List Int} (h:wfA r0 a):wfA r (perA a p r):=by
 rcases h with h|⟨h1,h2⟩
 ·left; rw [perA_kind]; exact h
 ·right;refine ⟨by rw [perA_kind]; exact h1,?_⟩;unfold perA;rw [if_neg y5];simp only [perS_len,zH]
theorem idx_get {l:List Int} {j:Int} (h0:0≤j) (h:j.toNat < l.length):idx l j=some (l.getD j.toNat 0):=by
 obtain ⟨k,rfl⟩:∃ k:Nat,j=(k:Int):=⟨j.toNat,by omega⟩;simp only [Int.toNat_natCast] at h ⊢;rw [idx_ok h,getD_el h]
theorem mkN_ok {r:Nat} (h:r≤600):makeM 8 (r:Int) (0:Int)=some (List.replicate r 0):=by
 have:=mkS_ok (List.replicate r 0) (by simpa using h)
 simpa using this
def perP (perm s:List Int) (x:Qc):Qc:=⟨⟨perLo perm x.box.lo (List.replicate s.length 0),perHi perm x.box.hi s⟩,perA x.access perm s.length⟩
theorem perLo_ge:∀ (ps l lo:List Int) (k:Nat),(∀ j∈ps,0≤j∧j.toNat < lo.length)→lo.getD k 0≤(perLo ps l lo).getD k 0
 | [],_,_,_,_=>Int.le_refl _
 | _::_,[],_,_,_=>Int.le_refl _
 | j::ps,a::l,lo,k,h=>by
  refine Int.le_trans ?_ (perLo_ge ps l _ k fun i hi=>by simpa using h i (jG _ hi));obtain ⟨j0,j1⟩:=h j (jM ..);by_cases e:j.toNat=k
  ·subst e;simp only [jB,zC,if_true,j1,Option.getD_some];split <;> omega
  ·simp only [jB,zC,e,if_false,Int.le_refl]
theorem perHi_le:∀ (ps l hi:List Int) (k:Nat),(∀ j∈ps,0≤j∧j.toNat < hi.length)→(perHi ps l hi).getD k 0≤hi.getD k 0
 | [],_,_,_,_=>Int.le_refl _
 | _::_,[],_,_,_=>Int.le_refl _
 | j::ps,a::l,hi,k,h=>by
  refine Int.le_trans (perHi_le ps l _ k fun i hi=>by simpa using h i (jG _ hi)) ?_;obtain ⟨j0,j1⟩:=h j (jM ..);by_cases e:j.toNat=k
  ·subst e;simp only [jB,zC,if_true,j1,Option.getD_some];split <;> omega
  ·simp only [jB,zC,e,if_false,Int.le_refl]
theorem ok_of:∀ {s l h:List Int},l.length=s.length→h.length=s.length→fullB l h=true→(∀ k,k < s.length→0≤l.getD k 0∧h.getD k 0≤s.getD k 0)→okB s l h
 | [],[],[],_,_,_,_=>trivial
 | n::s,a::l,b::h,h1,h2,hf,hk=>by
  simp only [fullB,jE,zA] at hf;have h0:=hk 0 y7;simp at h0;exact ⟨⟨h0.1,hf.1,h0.2⟩,ok_of (by simpa using h1) (by simpa using h2) hf.2 fun k hk'=>by simpa using hk (k+1) (by simpa using hk')⟩
 | [],_::_,_,h,_,_,_=>by simp at h
 | [],[],_::_,_,h,_,_=>by simp at h
 | _::_,[],_,h,_,_,_=>by simp at h
 | _::_,_::_,[],_,h,_,_=>by simp at h
theorem rep_getD (r k:Nat):(List.replicate r (0:Int)).getD k 0=0:=by
 simp only [jB,zK];split <;> rfl
section
variable {P Q:Qc→Prop} {s0 s perm:List Int} {l:List Qc}
theorem Tra_pre (h:Inv P s0 l) (hp0:perm.length=s0.length) (hp:∀ j∈perm,0≤j∧j.toNat < s.length) (hd:∀ k,k < s0.length→s.getD (perm.getD k 0).toNat 0≤s0.getD k 0) (hQ:∀ x∈l,okB s0 x.box.lo x.box.hi→wfA s0.length x.access→P x→fullP (perP perm s x)=true→Q (perP perm s x)) :
  Pre Q s (l.map (perP perm s)):=by

 refine ⟨fun y hy=>?_,fun y hy=>?_,fun y hy hf=>?_,fun i hi=>?_⟩
 ·obtain ⟨x,hx,rfl⟩:=List.mem_map.1 hy;refine ⟨by simp [perP,perLo_len],by simp [perP,perHi_len],fun hf=>ok_of (by simp [perP,perLo_len]) (by simp [perP,perHi_len]) hf fun k hk=>⟨?_,perHi_le _ _ _ _ hp⟩⟩;have:=perLo_ge perm x.box.lo (List.replicate s.length 0) k (fun j hj=>by simpa using hp j hj);rw [rep_getD] at this;exact this
 ·obtain ⟨x,hx,rfl⟩:=List.mem_map.1 hy;exact per_wf (h.acc x hx)
 ·obtain ⟨x,hx,rfl⟩:=List.mem_map.1 hy;exact hQ x hx (h.box x hx) (h.acc x hx) (h.prp x hx) hf
 ·have hl:=vld_len hi;rw [cnt_map (j:=perI perm i) fun x hx=>?_]
  ·refine h.cnt _ (vld_of (by simp [perI,hp0]) fun k hk=>?_);have hj:=hp (perm.getD k 0) (by rw [getD_el y5]; exact z8 _);have hv:=vld_get hi (perm.getD k 0).toNat hj.2
   have e:(perI perm i).getD k 0=i.getD (perm.getD k 0).toNat 0:=by
    rw [getD_el (l:=perI perm i) (by simp [perI]; omega),getD_el (l:=perm) (k:=k) y5];simp [perI]
   rw [e];have:=hd k hk;omega
  ·obtain ⟨l1,l2⟩:=wk_len (h.wk x hx);unfold hasP perP;rw [inB_per perm x.box.lo x.box.hi _ s i y5 y5 (by simpa using hl) hl (fun j hj=>by have:=hp j hj; omega),vld_inB hi,Bool.true_and]
end
def shfs (a:Qn):Nat→List Int→Qn
 | _,[]=>a
 | k,n::st=>shfs (shfA a k n) (k+1) st
theorem shfs_wf {r:Nat}:∀ (st:List Int) (a:Qn) (k:Nat),wfA r a→wfA r (shfs a k st)
 | [],_,_,h=>h
 | n::st,a,k,h=>by rw [shfs]; exact shfs_wf st _ _ (shf_wf h)
def winP (s st:List Int) (x:Qc):Qc:=⟨⟨clo x.box.lo s st,chi x.box.lo x.box.hi s st⟩,shfs x.access 0 st⟩
theorem zip_len {i st:List Int} (h:i.length=st.length):(List.zipWith (·+·) i st).length=i.length:=by simp [h]
section
variable {P Q:Qc→Prop} {s0 s st:List Int} {l:List Qc}
def winL (s0 s st:List Int) (l:List Qc):List Qc:=l.map (winP s st)++(restB s (clo (List.replicate s.length 0) s st) (chi (List.replicate s.length 0) s0 s st)).map fillB
theorem Win_pre (h:Inv P s0 l) (hc0:checkR s0=0) (hc:checkR s=0) (h0:s0.length=s.length) (hst:st.length=s.length) (hb:∀ x∈st,-65536≤x∧x≤65536)
  (hQ:∀ x∈l,okB s0 x.box.lo x.box.hi→wfA s0.length x.access→P x→fullP (winP s st x)=true→Q (winP s st x)) (hF:∀ b,okB s b.lo b.hi→(∀ i,vld s i=true→inB b.lo b.hi i=true→vld s0 (List.zipWith (·+·) i st)=false)→Q (fillB b)) :
  Pre Q s (winL s0 s st l):=by
 obtain ⟨h1,h2,h3⟩:=checkR_ok hc;obtain ⟨i1,i2,i3⟩:=checkR_ok hc0;have hn0:∀ n∈s,0≤n:=fun n hn=>(h3 n hn).1
 have hn1:∀ n∈s0,0≤n:=fun n hn=>(i3 n hn).1
 have hcw:=clip_wk (lo:=List.replicate s.length 0) (hi:=s0) (t:=s) (st:=st) (by simp [hst]) hst.symm y5 hn0
 have hinn:∀ i,vld s i=true→inB (clo (List.replicate s.length 0) s st) (chi (List.replicate s.length 0) s0 s st) i=vld s0 (List.zipWith (·+·) i st):=fun i hi=>by
  have hl:=vld_len hi;rw [inB_win hi y7 y5 hst (fun x hx=>by have:=(List.mem_replicate.1 hx).2; omega) (fun x hx=>i3 x hx) hb];have hz:=zip_len (i:=i) (st:=st) y5;cases hv:vld s0 (List.zipWith (·+·) i st) with
  | true=>have:=vld_inB hv; rw [h0] at this; exact this
  | false =>
   cases hh:inB (List.replicate s.length 0) s0 (List.zipWith (·+·) i st) with
   | false=>rfl
   | true =>
    rw [← h0] at hh;have:=inB_vld (wk_whole hn1) hh;rw [hv] at this; cases this
 have hrest:∀ i,vld s i=true→((restB s (clo (List.replicate s.length 0) s st) (chi (List.replicate s.length 0) s0 s st)).map fillB).countP (hasP i)=if vld s0 (List.zipWith (·+·) i st)=true then 0 else 1:=fun i hi=>by
  have:=rest_count fillA hcw hi;rw [List.countP_cons] at this;have e:hasP i (⟨⟨clo (List.replicate s.length 0) s st,chi (List.replicate s.length 0) s0 s st⟩,fillA⟩:Qc)=vld s0 (List.zipWith (·+·) i st):=hinn i hi;rw [e] at this;split at this <;> rename_i hv
  ·rw [if_pos hv]; omega
  ·rw [if_neg hv]; omega
 have hhas:∀ i,vld s i=true→∀ x∈l,hasP i (winP s st x)=hasP (List.zipWith (·+·) i st) x:=fun i hi x hx=>by
  obtain ⟨l1,l2⟩:=wk_len (h.wk x hx);obtain ⟨b1,b2⟩:=wk_bnd (fun n hn=>(i3 n hn).2) (h.wk x hx);exact inB_win hi y5 y5 hst b1 b2 hb
 refine ⟨fun y hy=>?_,fun y hy=>?_,fun y hy hf=>?_,fun i hi=>?_⟩
 ·rcases List.mem_append.1 hy with hy|hy
  ·obtain ⟨x,hx,rfl⟩:=List.mem_map.1 hy;obtain ⟨l1,l2⟩:=wk_len (h.wk x hx);exact wk_qk (clip_wk y5 y5 y5 hn0)
  ·obtain ⟨b,hb,rfl⟩:=List.mem_map.1 hy;exact wk_qk (rest_wk hn0 hcw b hb)
 ·rcases List.mem_append.1 hy with hy|hy
  ·obtain ⟨x,hx,rfl⟩:=List.mem_map.1 hy;have:=h.acc x hx;rw [h0] at this;exact shfs_wf _ _ _ this
  ·obtain ⟨b,hb,rfl⟩:=List.mem_map.1 hy;exact .inl rfl
 ·rcases List.mem_append.1 hy with hy|hy
  ·obtain ⟨x,hx,rfl⟩:=List.mem_map.1 hy;exact hQ x hx (h.box x hx) (h.acc x hx) (h.prp x hx) hf
  ·obtain ⟨b,hb,rfl⟩:=List.mem_map.1 hy;refine hF b (wk_ok (rest_wk hn0 hcw b hb) hf) fun i hi hh=>?_
   have:=hrest i hi;cases hv:vld s0 (List.zipWith (·+·) i st) with
   | false=>rfl
   | true =>
    rw [if_pos hv,List.countP_eq_zero] at this;exact absurd hh (this (fillB b) (List.mem_map.2 ⟨b,hb,rfl⟩))
 ·unfold winL;rw [List.countP_append,hrest i hi,cnt_map (hhas i hi)];by_cases hv:vld s0 (List.zipWith (·+·) i st)=true
  ·rw [if_pos hv,h.cnt _ hv]
  ·rw [if_neg hv]
   have:l.countP (hasP (List.zipWith (·+·) i st))=0:=by
    rw [List.countP_eq_zero];intro x hx hh;exact hv (inB_vld (h.wk x hx) hh)
   rw [this]
end
theorem whole_inv {P:Qc→Prop} {s:List Int} {b:Int} (hc:checkR s=0) (hP:prodI s≠0→P (wholeP b s)):Inv P s (if prodI s=0 then [] else [wholeP b s]):=by
 obtain ⟨h1,h2,h3⟩:=checkR_ok hc;have hn:∀ n∈s,0≤n:=fun n hn=>(h3 n hn).1
 by_cases z:prodI s=0
 ·rw [if_pos z];refine ⟨fun x hx=>by simp at hx,fun x hx=>by simp at hx,fun x hx=>by simp at hx,fun i hi=>?_,rfl⟩;have:=prodI_pos (vld_pos hi);omega
 ·rw [if_neg z];refine ⟨fun x hx=>?_,fun x hx=>?_,fun x hx=>?_,fun i hi=>?_,rfl⟩
  ·simp only [jX] at hx;subst hx;exact wk_ok (wk_whole hn) (full_whole (prodI_zero_iff hn z))
  ·simp only [jX] at hx;subst hx;exact .inr ⟨.inl rfl,strd_len s⟩
  ·simp only [jX] at hx;subst hx;exact hP z
  ·have:hasP i (wholeP b s)=true:=vld_inB hi
   simp [this]
theorem ext_set {s a:List Int} {k:Nat} (hl:a.length=s.length) (h:∀ j,j < s.length→j≠k→a.getD j 0=s.getD j 0):s.set k (a.getD k 0)=a:=by
 refine List.ext_getElem (by simp [hl]) fun j h1 h2=>?_
 rw [List.getElem_set];split
 ·rename_i e; subst e; exact getD_el h2
 ·rename_i e;have:=h j (by simpa using h1) (fun e'=>e e'.symm);rw [getD_el h2,getD_el (by simpa using h1)] at this;exact this.symm
section
variable {bs:List (List Int)} {m:Int} {G:Qa→Prop} {R:Qa→Qc→Prop}
end
def kindN (k:Int) (l:List Qc):Nat:=l.countP fun x=>x.access.kind == k
theorem Kinds_L1:∀ (l p:List Qc) (a b c:Nat),p.length+l.length≤50000→a+b+c≤p.length→(∀ x∈l,x.access.kind=1∨x.access.kind=2∨x.access.kind=3) →
  Zr (p++l,(a:Int),(b:Int),(c:Int),(p.length:Int))=some (((a+kindN 1 l:Nat):Int),((b+kindN 2 l:Nat):Int),((c+kindN 3 l:Nat):Int))
 | [],p,a,b,c,h,hs,hk=>by
  rw [Zr];simp only [Q4,if_false]; rfl
 | x::l,p,a,b,c,h,hs,hk=>by
  rw [Zr];have h':p.length≤100000:=by simp at h; omega
  have ih:=fun a b c hs=>Kinds_L1 l (p++[x]) a b c (by simp at h ⊢; omega) hs (fun y hy=>hk y (jG _ hy))
  simp only [← Qr] at ih;have wn:∀ n:Nat,n≤100000→W ((n:Int)+1)=((n+1:Nat):Int):=fun n hn=>W_nat y5
  simp only [QU,if_true,Qy,Qe,W_len (x:=x) h'];rcases hk x (jM ..) with e|e|e
  ·have w:W (x.access.kind - 1)=0:=by rw [e]; decide
   simp only [w,if_true,wn a y5];rw [ih (a+1) b c y6];have e1:kindN 1 (x::l)=kindN 1 l+1:=List.countP_cons_of_pos (by simp [e]);have e2:kindN 2 (x::l)=kindN 2 l:=List.countP_cons_of_neg (by simp [e]);have e3:kindN 3 (x::l)=kindN 3 l:=List.countP_cons_of_neg (by simp [e]);rw [e1,e2,e3,show a+1+kindN 1 l=a+(kindN 1 l+1) by omega]
  ·have w:W (x.access.kind - 1)=1:=by rw [e]; decide
   simp only [w,show ¬ (1:Int)=0 by decide,if_false,if_true,wn b y5];rw [ih a (b+1) c y6];have e1:kindN 1 (x::l)=kindN 1 l:=List.countP_cons_of_neg (by simp [e]);have e2:kindN 2 (x::l)=kindN 2 l+1:=List.countP_cons_of_pos (by simp [e]);have e3:kindN 3 (x::l)=kindN 3 l:=List.countP_cons_of_neg (by simp [e]);rw [e1,e2,e3,show b+1+kindN 2 l=b+(kindN 2 l+1) by omega]
  ·have w:W (x.access.kind - 1)=2:=by rw [e]; decide
   simp only [w,show ¬ (2:Int)=0 by decide,show ¬ (2:Int)=1 by decide,if_false,if_true,wn c y5];rw [ih a b (c+1) y6];have e1:kindN 1 (x::l)=kindN 1 l:=List.countP_cons_of_neg (by simp [e]);have e2:kindN 2 (x::l)=kindN 2 l:=List.countP_cons_of_neg (by simp [e]);have e3:kindN 3 (x::l)=kindN 3 l+1:=List.countP_cons_of_pos (by simp [e]);rw [e1,e2,e3,show c+1+kindN 3 l=c+(kindN 3 l+1) by omega]
theorem Kinds_ok {l:List Qc} (h:l.length≤50000) (hk:∀ x∈l,x.access.kind=1∨x.access.kind=2∨x.access.kind=3):Jb l=some ⟨(kindN 1 l:Int),(kindN 2 l:Int),(kindN 3 l:Int)⟩:=by
 have e:=Kinds_L1 l [] 0 0 0 (by simpa using h) y7 hk;simp only [zW,jQ,jL] at e;have e':Zr (l,0,0,0,0)=some ((kindN 1 l:Int),(kindN 2 l:Int),(kindN 3 l:Int)):=e;simp only [Jb,e',Qe]
def kidS (c:Qa):List Int:=match c.kids with|[]=>[]|k::_=>k.shape
def stepV (c:Qa) (i:List Int):Int × List Int × Bool :=
 if c.kind=2 then (0,if vld (kidS c) (addW i c.starts)=true then addW i c.starts else [],vld (kidS c) (addW i c.starts))
 else if c.kind=3 then (0,i.set c.axis.toNat ((kidS c).getD c.axis.toNat 0 - 1 - i.getD c.axis.toNat 0),true)
 else if c.kind=4 then (0,i.set c.axis.toNat ((i.getD c.axis.toNat 0+c.amount) % (kidS c).getD c.axis.toNat 0),true)
 else if c.kind=5 then (0,pick i c.perm,true)
 else if c.kind=6 then (if prodI (kidS c)=0 then (0,[],false) else (0,dig (kidS c) (dotp c.shape i % prodI (kidS c)),true))
 else if i.getD c.axis.toNat 0 < (kidS c).getD c.axis.toNat 0 then (0,i,true) else (1,i.set c.axis.toNat (i.getD c.axis.toNat 0 - (kidS c).getD c.axis.toNat 0),true)
def dotE:List Int→List Int→Int
 | a::s,b::t=>a * b+dotE s t
 | _,_=>0
theorem W_shift (a q:Int):W (a+18446744073709551616 * q)=W a:=by
 simp only [W,IntKind.wrap,IntKind.bits,IntKind.signed];simp
theorem W_ex (a:Int):∃ q,W a=a+18446744073709551616 * q:=by
 simp only [W,IntKind.wrap,IntKind.bits,IntKind.signed];simp;split
 ·exact ⟨-(a / 18446744073709551616) - 1,by omega⟩
 ·exact ⟨-(a / 18446744073709551616),by omega⟩
theorem W_add_l (a b:Int):W (W a+b)=W (a+b):=by
 obtain ⟨q,e⟩:=W_ex a;rw [e,show a+18446744073709551616 * q+b=(a+b)+18446744073709551616 * q by omega,W_shift]
theorem W_add_r (a b:Int):W (a+W b)=W (a+b):=by rw [Int.add_comm,W_add_l,Int.add_comm]
theorem dotE_set:∀ (s i:List Int) (k:Nat) (c x y:Int),s[k]? = some c→i[k]? = some x→dotE s (i.set k y)=dotE s i+c * (y - x)
 | [],_,_,_,_,_,h,_=>by simp at h
 | _::_,[],_,_,_,_,_,h=>by simp at h
 | a::s,b::i,0,c,x,y,h1,h2=>by
  simp at h1 h2; subst h1; subst h2;simp only [List.set_cons_zero,dotE,Int.mul_sub]; omega
 | a::s,b::i,k+1,c,x,y,h1,h2=>by
  simp only [List.set_cons_succ,dotE,dotE_set s i k c x y (by simpa using h1) (by simpa using h2)]; omega
theorem dotE_str:∀ (s i:List Int) (k:Nat) (c d x:Int),s[k]? = some c→i[k]? = some x→dotE (s.set k d) i=dotE s i+(d - c) * x
 | [],_,_,_,_,_,h,_=>by simp at h
 | _::_,[],_,_,_,_,_,h=>by simp at h
 | a::s,b::i,0,c,d,x,h1,h2=>by
  simp at h1 h2; subst h1; subst h2;simp only [List.set_cons_zero,dotE,Int.sub_mul]; omega
 | a::s,b::i,k+1,c,d,x,h1,h2=>by
  simp only [List.set_cons_succ,dotE,dotE_str s i k c d x (by simpa using h1) (by simpa using h2)]; omega
def atC (a:Qn) (i:List Int):Bool × Int × Int :=
 if a.kind=1 then (true,0,0) else if a.kind=3 then (false,a.buffer,W (a.base+W (a.step * (W (a.start+dotE a.strides i) % a.mod)))) else (false,a.buffer,W (a.base+dotE a.strides i))
theorem add_at {r:Nat} {a:Qn} {n:Int} {st i j:List Int} (h:wfA r a) (e:∀ b:Int,a.kind≠1→W (W (b+n)+dotE st i)=W (b+dotE a.strides j)):atC (addA a n st) i=atC a j:=by
 obtain ⟨kd,bu,ba,s,sa,sp,md⟩:=a;rcases h with h|⟨h|h,h2⟩ <;> simp only at h <;> subst h
 ·rfl
 ·have:=e ba (show ¬ (2:Int)=1 by decide);simp only [atC,addA,show ¬ (2:Int)=1 by decide,show ¬ (2:Int)=3 by decide,if_false];rw [this]
 ·have:=e sa (show ¬ (3:Int)=1 by decide);simp only [atC,addA,show ¬ (3:Int)=1 by decide,if_false,if_true];rw [this]
theorem shf_at {r:Nat} {a:Qn} {k:Nat} {n x:Int} {i:List Int} (h:wfA r a) (hk:k < r) (hi:i[k]? = some x):atC (shfA a k n) i=atC a (i.set k (x+n)) :=
 add_at h fun b hne=>by
  have hs:a.strides.length=r:=by rcases h with h|h; exact absurd h hne; exact h.2
  rw [dotE_set _ i k (a.strides.getD k 0) x _ (at_getD y5) hi,W_add_l,show b+W (n * a.strides.getD k 0)+dotE a.strides i=(b+dotE a.strides i)+W (n * a.strides.getD k 0) by omega,W_add_r,
   show x+n - x=n by omega,Int.mul_comm n]
  congr 1; omega
theorem flp_at {r:Nat} {a:Qn} {k:Nat} {n x:Int} {i:List Int} (h:wfA r a) (hk:k < r) (hi:i[k]? = some x):atC (flpA a k n) i=atC a (i.set k (n - 1 - x)) :=
 add_at h fun b hne=>by
  have hs:a.strides.length=r:=by rcases h with h|h; exact absurd h hne; exact h.2
  have hc:=at_getD (l:=a.strides) (k:=k) y5;generalize a.strides.getD k 0=c at *;obtain ⟨q,e1⟩:=W_ex (n - 1);obtain ⟨q2,e2⟩:=W_ex (0 - c);rw [dotE_set _ i k c x _ hc hi,dotE_str _ i k c _ x hc hi,W_add_l,show b+W (W (n - 1) * c)+(dotE a.strides i+(W (0 - c) - c) * x)=(b+(dotE a.strides i+(W (0 - c) - c) * x))+W (W (n - 1) * c) by omega,W_add_r,e1,e2]
  have:b+(dotE a.strides i+(0 - c+18446744073709551616 * q2 - c) * x)+(n - 1+18446744073709551616 * q) * c=(b+(dotE a.strides i+c * (n - 1 - x - x)))+18446744073709551616 * (q2 * x+q * c):=by
   simp only [Int.add_mul,Int.sub_mul,Int.mul_sub,Int.mul_add,Int.mul_assoc,Int.zero_mul,Int.one_mul,Int.mul_one,Int.mul_comm x c,Int.mul_comm n c];omega
  rw [this,W_shift]
theorem shfs_at {r:Nat}:∀ (st pre i:List Int) (a:Qn),wfA r a→pre.length+st.length=r→i.length=st.length→atC (shfs a pre.length st) (pre++i)=atC a (pre++List.zipWith (·+·) i st)
 | [],pre,[],a,_,_,_=>rfl
 | n::st,pre,x::i,a,h,h1,h2=>by
  have e:=shfs_at st (pre++[x]) i (shfA a pre.length n) (shf_wf h) (by simp at h1 ⊢; omega) (by simpa using h2);rw [shfs];rw [jV,List.length_singleton,List.append_assoc,List.singleton_append] at e;rw [e,List.append_assoc,List.singleton_append,shf_at h (by simp at h1; omega) (x:=x) y7];congr 1;simp
 | [],_,_::_,_,_,_,h=>by simp at h
 | _::_,_,[],_,_,_,h=>by simp at h
theorem perS_dot (i:List Int):∀ (ps st out:List Int),st.length=ps.length→out.length=i.length→(∀ j∈ps,0≤j∧j.toNat < i.length)→∃ q,dotE (perS ps st out) i=dotE out i+dotE st (perI ps i)+18446744073709551616 * q
 | [],[],out,_,_,_=>⟨0,by simp [perS,perI,dotE]⟩
 | j::ps,c::st,out,h1,h2,hj=>by
  obtain ⟨j0,j1⟩:=hj j (jM ..);obtain ⟨q,e⟩:=perS_dot i ps st (out.set j.toNat (W (W (0+out.getD j.toNat 0)+c))) (by simpa using h1) (by simpa using h2) (fun k hk=>hj k (jG _ hk));obtain ⟨q2,e2⟩:=W_ex (0+out.getD j.toNat 0+c);rw [perS,e,dotE_str out i j.toNat (out.getD j.toNat 0) _ (i.getD j.toNat 0) (at_getD y5) (at_getD j1),W_add_l,e2];refine ⟨q+q2 * i.getD j.toNat 0,?_⟩;simp only [perI,zS,dotE];generalize i.getD j.toNat 0=x;generalize out.getD j.toNat 0=y;simp only [Int.add_mul,Int.sub_mul,Int.mul_add,Int.mul_assoc];omega
 | [],_::_,_,h,_,_=>by simp at h
 | _::_,[],_,h,_,_=>by simp at h
theorem dotE_zero:∀ (r:Nat) (i:List Int),dotE (List.replicate r 0) i=0
 | 0,_=>by simp [dotE]
 | r+1,[]=>by simp [List.replicate_succ,dotE]
 | r+1,x::i=>by rw [List.replicate_succ,dotE,dotE_zero r i]; omega
theorem per_at {a:Qn} {perm i:List Int} (h:wfA perm.length a) (hj:∀ j∈perm,0≤j∧j.toNat < i.length):atC (perA a perm i.length) i=atC a (perI perm i):=by
 obtain ⟨kd,bu,ba,s,sa,sp,md⟩:=a;rcases h with h|⟨h|h,h2⟩ <;> simp only at h <;> subst h
 ·rfl
 ·obtain ⟨q,e⟩:=perS_dot i perm s (List.replicate i.length 0) h2 y7 hj;rw [dotE_zero] at e;simp only [atC,perA,show ¬ (2:Int)=1 by decide,show ¬ (2:Int)=3 by decide,if_false,e];rw [show ba+(0+dotE s (perI perm i)+18446744073709551616 * q)=(ba+dotE s (perI perm i))+18446744073709551616 * q by omega,W_shift]
 ·obtain ⟨q,e⟩:=perS_dot i perm s (List.replicate i.length 0) h2 y7 hj;rw [dotE_zero] at e;simp only [atC,perA,show ¬ (3:Int)=1 by decide,if_false,if_true,e];rw [show sa+(0+dotE s (perI perm i)+18446744073709551616 * q)=(sa+dotE s (perI perm i))+18446744073709551616 * q by omega,W_shift]
mutual
def orgC:Qa→List Int→Bool × Int × Int
 | ⟨k,sh,bu,st,ax,am,pe,ks⟩,i=>if k=1 then (false,bu,dotp sh i) else if (stepV ⟨k,sh,bu,st,ax,am,pe,ks⟩ i).2.2=true then orgCs ks (stepV ⟨k,sh,bu,st,ax,am,pe,ks⟩ i).1.toNat (stepV ⟨k,sh,bu,st,ax,am,pe,ks⟩ i).2.1 else (true,0,0)
def orgCs:List Qa→Nat→List Int→Bool × Int × Int
 | [],_,_=>(true,0,0)
 | k::_,0,i=>orgC k i
 | _::ks,n+1,i=>orgCs ks n i
end
theorem org_one {c:Qa} {i:List Int} (h:c.kind=1):orgC c i=(false,c.buffer,dotp c.shape i):=by
 cases c; simp only at h; rw [orgC,if_pos h]
theorem org_two {c:Qa} {i:List Int} (h:c.kind≠1):orgC c i=if (stepV c i).2.2=true then orgCs c.kids (stepV c i).1.toNat (stepV c i).2.1 else (true,0,0):=by
 cases c; simp only at h; rw [orgC,if_neg h]
theorem addW_zip:∀ {i st:List Int},(∀ x∈i,0≤x∧x≤65536)→(∀ x∈st,-65536≤x∧x≤65536)→addW i st=List.zipWith (·+·) i st
 | [],_,_,_=>rfl
 | _::_,[],_,_=>rfl
 | x::i,n::st,h1,h2=>by
  have a:=h1 x (jM ..);have b:=h2 n (jM ..);have ih:=addW_zip (i:=i) (st:=st) (fun y hy=>h1 y (jG _ hy)) (fun y hy=>h2 y (jG _ hy));unfold addW at ih ⊢;rw [List.zipWith_cons_cons,List.zipWith_cons_cons,ih,W_in y5 y5]
theorem vld_bnd {s i:List Int} (hs:∀ n∈s,n≤65536) (h:vld s i=true):∀ x∈i,0≤x∧x≤65536:=fun x hx=>by
 obtain ⟨k,hk,rfl⟩:=List.getElem_of_mem hx;have hl:=vld_len h;have:=vld_get h k y5;have h2:=hs (s.getD k 0) (by rw [getD_el y5]; exact z8 _);rw [getD_el hk] at this;omega
def orgP (c:Qa) (x:Qc):Prop:=∀ i,vld c.shape i=true→hasP i x=true→atC x.access i=orgC c i
section
variable {bs:List (List Int)} {m:Int} {G:Qa→Prop}
theorem has_vld {s i:List Int} {x:Qc} (hb:okB s x.box.lo x.box.hi) (h:hasP i x=true):vld s i=true:=inB_vld (ok_wk hb) h
theorem strd_dot:∀ {s i:List Int},s.length=i.length→dotE (strd s) i=dotp s i
 | [],[],_=>rfl
 | n::s,x::i,h=>by rw [strd,dotE,dotp,strd_dot (by simpa using h),Int.mul_comm]
 | [],_::_,h=>by simp at h
 | _::_,[],h=>by simp at h
theorem org_whole {c:Qa} (h1:c.kind=1) (hc:checkR c.shape=0):orgP c (wholeP c.buffer c.shape):=fun i hi _=>by
 obtain ⟨c1,c2,c3⟩:=checkR_ok hc;have:=dotp_range hi;have hw:W (0+dotp c.shape i)=dotp c.shape i:=by rw [W_in y5 y5]; omega
 rw [org_one h1];simp only [atC,wholeP,show ¬ (2:Int)=1 by decide,show ¬ (2:Int)=3 by decide,if_false,strd_dot (vld_len hi),hw]
theorem org_win {c k:Qa} {x:Qc} (h2:c.kind=2) (hk:c.kids=[k]) (hc:checkR c.shape=0) (hck:checkR k.shape=0) (hl:k.shape.length=c.shape.length) (hst:c.starts.length=c.shape.length) (hbs:∀ x∈c.starts,-65536≤x∧x≤65536)
  (hb:okB k.shape x.box.lo x.box.hi) (ha:wfA k.shape.length x.access) (hp:orgP k x):orgP c (winP c.shape c.starts x):=fun i hi hh=>by
 obtain ⟨c1,c2,c3⟩:=checkR_ok hc;obtain ⟨d1,d2,d3⟩:=checkR_ok hck;obtain ⟨l1,l2⟩:=okB_len hb;obtain ⟨b1,b2⟩:=wk_bnd (fun n hn=>(d3 n hn).2) (ok_wk hb);have hil:=vld_len hi;have e:hasP i (winP c.shape c.starts x)=hasP (List.zipWith (·+·) i c.starts) x:=inB_win hi y5 y5 hst b1 b2 hbs;rw [e] at hh;have hv:=has_vld hb hh;have ez:=addW_zip (vld_bnd (fun n hn=>(c3 n hn).2) hi) hbs;have hkid:kidS c=k.shape:=by unfold kidS; rw [hk]
 have es:stepV c i=(0,List.zipWith (·+·) i c.starts,true):=by
  unfold stepV;rw [if_pos h2,ez,hkid,hv]; rfl
 rw [org_two y5,es];simp only [if_true,hk,Int.toNat_zero,orgCs];rw [← hp _ hv hh];exact shfs_at (r:=k.shape.length) c.starts [] i x.access ha y6 y5
theorem org_fil {c k:Qa} {b:QY} (h2:c.kind=2) (hk:c.kids=[k]) (hc:checkR c.shape=0) (hbs:∀ x∈c.starts,-65536≤x∧x≤65536)
  (hv:∀ i,vld c.shape i=true→inB b.lo b.hi i=true→vld k.shape (List.zipWith (·+·) i c.starts)=false):orgP c (fillB b):=fun i hi hh=>by
 obtain ⟨c1,c2,c3⟩:=checkR_ok hc;have ez:=addW_zip (vld_bnd (fun n hn=>(c3 n hn).2) hi) hbs;have hkid:kidS c=k.shape:=by unfold kidS; rw [hk]
 have es:(stepV c i).2.2=false:=by
  unfold stepV;rw [if_pos h2,ez,hkid];exact hv i hi hh
 rw [org_two y5,es];rfl
theorem org_rev {c k:Qa} {x:Qc} (h3:c.kind=3) (hk:c.kids=[k]) (hs:k.shape=c.shape) (ha0:0≤c.axis) (ha1:c.axis < (c.shape.length:Int))
  (hb:okB k.shape x.box.lo x.box.hi) (ha:wfA k.shape.length x.access) (hp:orgP k x):orgP c (revP c.axis.toNat (c.shape.getD c.axis.toNat 0) x):=fun i hi hh=>by
 have hil:=vld_len hi;rw [hs] at hb ha;have hx:=at_getD (l:=i) (k:=c.axis.toNat) y5;have e:=rev_has (ok_wk hb) (at_getD (l:=c.shape) (k:=c.axis.toNat) y5) hx hil;rw [e] at hh;have hv:=has_vld hb hh;have hkid:kidS c=c.shape:=by unfold kidS; rw [hk]; exact hs
 have es:stepV c i=(0,i.set c.axis.toNat (c.shape.getD c.axis.toNat 0 - 1 - i.getD c.axis.toNat 0),true):=by
  unfold stepV;rw [if_neg y5,if_pos h3,hkid]
 rw [org_two y5,es];simp only [if_true,hk,Int.toNat_zero,orgCs];rw [← hp _ (by rw [hs]; exact hv) hh];exact flp_at ha y5 hx
theorem org_mov {s i:List Int} {x:Qc} {k:Nat} {n f t d y:Int} (hb:okB s x.box.lo x.box.hi) (ha:wfA s.length x.access) (hk:s[k]? = some n) (hft:f≤t) (hd:-65536≤d∧d≤65536) (hl:s.length=i.length) (hi:i[k]? = some y) (hh:hasP i (movP k f t d x)=true) :
  (f≤y - d∧y - d < t)∧hasP (i.set k (y - d)) x=true∧atC (movP k f t d x).access i=atC x.access (i.set k (y - d)):=by
 rw [mov_has (ok_wk hb) hk hft hi hl,jE,zA] at hh;refine ⟨hh.1,hh.2,?_⟩;have w:W (0 - d)=0 - d:=W_in y5 y5;have:=shf_at (n:=0 - d) ha (lt_at hk) hi;rw [show y+(0 - d)=y - d by omega] at this;simp only [movP,w];exact this
theorem org_rot {c k:Qa} {x y:Qc} (h4:c.kind=4) (hk:c.kids=[k]) (hs:k.shape=c.shape) (hc:checkR c.shape=0) (ha0:0≤c.axis) (ha1:c.axis < (c.shape.length:Int)) (hm:0≤c.amount∧(c.amount=0∨c.amount < c.shape.getD c.axis.toNat 0))
  (hb:okB k.shape x.box.lo x.box.hi) (ha:wfA k.shape.length x.access) (hp:orgP k x) (hy:y∈rotP c.axis.toNat c.amount (c.shape.getD c.axis.toNat 0) x):orgP c y:=fun i hi hh=>by
 obtain ⟨c1,c2,c3⟩:=checkR_ok hc;have hil:=vld_len hi;rw [hs] at hb ha;have hsx:=at_getD (l:=c.shape) (k:=c.axis.toNat) y5;have hx:=at_getD (l:=i) (k:=c.axis.toNat) y5;obtain ⟨z,hz,z0,z1⟩:=vld_at hi hsx;have hnn:=c3 _ (jF hsx);rw [hx] at hz;simp only [j9] at hz;have hkid:kidS c=c.shape:=by unfold kidS; rw [hk]; exact hs
 have es:stepV c i=(0,i.set c.axis.toNat ((i.getD c.axis.toNat 0+c.amount) % c.shape.getD c.axis.toNat 0),true):=by
  unfold stepV;rw [if_neg y5,if_neg y5,if_pos h4,hkid]
 rw [org_two y5,es];simp only [if_true,hk,Int.toNat_zero,orgCs];generalize hN:c.shape.getD c.axis.toNat 0=N at *;generalize hX:i.getD c.axis.toNat 0=X at *;simp only [rotP,List.mem_cons,List.not_mem_nil,or_false] at hy;rcases hy with rfl|rfl
 ·obtain ⟨q1,q2,q3⟩:=org_mov hb ha hsx y5 y5 hil hx hh
  have:(X+c.amount) % N=X - (0 - c.amount):=by rw [Int.emod_eq_of_lt y5 y5]; omega
  rw [q3,this];exact hp _ (by rw [hs]; exact has_vld hb q2) q2
 ·obtain ⟨q1,q2,q3⟩:=org_mov hb ha hsx y5 y5 hil hx hh
  have:(X+c.amount) % N=X - (N - c.amount):=by
   rw [show X+c.amount=(X - (N - c.amount))+N by omega,Int.add_emod_right,Int.emod_eq_of_lt y5 y5]
  rw [q3,this];exact hp _ (by rw [hs]; exact has_vld hb q2) q2
theorem org_per {c k:Qa} {x:Qc} (h5:c.kind=5) (hk:c.kids=[k]) (hpl:c.perm.length=k.shape.length) (hpj:∀ j∈c.perm,0≤j∧j.toNat < c.shape.length)
  (hb:okB k.shape x.box.lo x.box.hi) (ha:wfA k.shape.length x.access) (hp:orgP k x):orgP c (perP c.perm c.shape x):=fun i hi hh=>by
 have hil:=vld_len hi;obtain ⟨l1,l2⟩:=okB_len hb;unfold hasP perP at hh;rw [inB_per c.perm x.box.lo x.box.hi _ c.shape i y5 y5 (by simpa using hil) hil (fun j hj=>by have:=hpj j hj; omega),vld_inB hi,Bool.true_and] at hh;have hv:=has_vld (x:=x) hb hh
 have es:stepV c i=(0,perI c.perm i,true):=by
  unfold stepV;rw [if_neg y5,if_neg y5,if_neg y5,if_pos h5]; rfl
 rw [org_two y5,es];simp only [if_true,hk,Int.toNat_zero,orgCs];rw [← hp _ hv hh];have:=per_at (a:=x.access) (perm:=c.perm) (i:=i) (by rw [hpl]; exact ha) (fun j hj=>by have:=hpj j hj; omega);simp only [perP,hil];exact this
theorem org_ct1 {c k k2:Qa} {x:Qc} (h7:c.kind=7) (hk:c.kids=[k,k2]) (hck:checkR k.shape=0) (hl:k.shape.length=c.shape.length) (ha0:0≤c.axis) (ha1:c.axis < (c.shape.length:Int))
  (hb:okB k.shape x.box.lo x.box.hi) (ha:wfA k.shape.length x.access) (hp:orgP k x):orgP c (movP c.axis.toNat 0 65536 0 x):=fun i hi hh=>by
 have hil:=vld_len hi;have hsx:=at_getD (l:=k.shape) (k:=c.axis.toNat) y5;have hx:=at_getD (l:=i) (k:=c.axis.toNat) y5;obtain ⟨q1,q2,q3⟩:=org_mov hb ha hsx y9 y9 y5 hx hh;rw [Int.sub_zero,set_same hx] at q2 q3;have hv:=has_vld hb q2;obtain ⟨z,hz,z0,z1⟩:=vld_at hv hsx;rw [hx] at hz;simp only [j9] at hz;have hkid:kidS c=k.shape:=by unfold kidS; rw [hk]
 have es:stepV c i=(0,i,true):=by
  unfold stepV;rw [if_neg y5,if_neg y5,if_neg y5,if_neg y5,if_neg y5,hkid,if_pos y5]
 rw [org_two y5,es];simp only [if_true,hk,Int.toNat_zero,orgCs];rw [q3];exact hp _ hv q2
theorem org_ct2 {c k k2:Qa} {x:Qc} (h7:c.kind=7) (hk:c.kids=[k,k2]) (hck:checkR k.shape=0) (hl:k2.shape.length=c.shape.length) (hl1:k.shape.length=c.shape.length) (ha0:0≤c.axis) (ha1:c.axis < (c.shape.length:Int))
  (hb:okB k2.shape x.box.lo x.box.hi) (ha:wfA k2.shape.length x.access) (hp:orgP k2 x):orgP c (movP c.axis.toNat 0 65536 (k.shape.getD c.axis.toNat 0) x):=fun i hi hh=>by
 have hil:=vld_len hi;have hsx:=at_getD (l:=k2.shape) (k:=c.axis.toNat) y5;have hx:=at_getD (l:=i) (k:=c.axis.toNat) y5;have hn:=(checkR_ok hck).2.2 _ (jF (at_getD (l:=k.shape) (k:=c.axis.toNat) y5));obtain ⟨q1,q2,q3⟩:=org_mov hb ha hsx y9 y5 y5 hx hh;have hv:=has_vld hb q2;have hkid:kidS c=k.shape:=by unfold kidS; rw [hk]
 have es:stepV c i=(1,i.set c.axis.toNat (i.getD c.axis.toNat 0 - k.shape.getD c.axis.toNat 0),true):=by
  unfold stepV;rw [if_neg y5,if_neg y5,if_neg y5,if_neg y5,if_neg y5,hkid,if_neg y5]
 have t1:Int.toNat 1=1:=rfl;rw [org_two y5,es];simp only [if_true,hk,t1,orgCs];rw [q3];exact hp _ hv q2
end
inductive Nod (c:Qa):Prop
 | one:c.kind=1→c.kids=[]→Nod c
 | win (k:Qa):c.kind=2→c.kids=[k]→k.shape.length=c.shape.length→c.starts.length=c.shape.length→(∀ x∈c.starts,-65536≤x∧x≤65536)→Nod c
 | rev (k:Qa):c.kind=3→c.kids=[k]→k.shape=c.shape→c.axis=(c.axis.toNat:Int)→c.axis.toNat < c.shape.length→Nod c
 | rot (k:Qa):c.kind=4→c.kids=[k]→k.shape=c.shape→c.axis=(c.axis.toNat:Int)→c.axis.toNat < c.shape.length→0≤c.amount→c.amount≤c.shape.getD c.axis.toNat 0→(c.amount=0∨c.amount < c.shape.getD c.axis.toNat 0)→Nod c
 | tra (k:Qa):c.kind=5→c.kids=[k]→c.perm.length=k.shape.length→(∀ j∈c.perm,0≤j∧j.toNat < c.shape.length)→(∀ i,i < k.shape.length→c.shape.getD (c.perm.getD i 0).toNat 0≤k.shape.getD i 0)→Nod c
 | rsh (k:Qa):c.kind=6→c.kids=[k]→Nod c
 | cat (k k2:Qa):c.kind=7→c.kids=[k,k2]→c.axis=(c.axis.toNat:Int)→c.axis.toNat < c.shape.length→k.shape.length=c.shape.length→k2.shape.length=c.shape.length →
   c.shape.set c.axis.toNat (k.shape.getD c.axis.toNat 0)=k.shape→c.shape.set c.axis.toNat (k2.shape.getD c.axis.toNat 0)=k2.shape→c.shape[c.axis.toNat]? = some (k.shape.getD c.axis.toNat 0+k2.shape.getD c.axis.toNat 0)→Nod c
theorem one_of {α:Type}:∀ {l:List α},(l.length:Int)=1→∃ k,l=[k]
 | [k],_=>⟨k,rfl⟩
 | [],h=>by simp at h
 | _::_::_,h=>by simp at h; omega
theorem two_of {α:Type}:∀ {l:List α},(l.length:Int)=2→∃ k k2,l=[k,k2]
 | [a,b],_=>⟨a,b,rfl⟩
 | [],h=>by simp at h
 | [_],h=>by simp at h
 | _::_::_::_,h=>by simp at h; omega
theorem nod_of {c:Qa} (nf:nodeF c) (hk:∀ k∈c.kids,checkR k.shape=0):Nod c:=by
 obtain ⟨c1,c2,c3⟩:=checkR_ok nf.chk
 have one:c.kind≠1→c.kind≠7→∃ k,c.kids=[k]:=fun n1 n7=>by
  have:=nf.kids;rw [if_neg n7,if_neg n1] at this;exact one_of this
 have hkd:=nf.kind;by_cases k1:c.kind=1
 ·refine .one k1 ?_;have:=nf.kids;rw [if_neg y5,if_pos k1] at this;exact List.eq_nil_of_length_eq_zero y5
 by_cases k7:c.kind=7
 ·obtain ⟨k,k2,hks⟩:∃ k k2,c.kids=[k,k2]:=by
   have:=nf.kids;rw [if_pos k7] at this;exact two_of this
  obtain ⟨t1,t2,t3,t4,t5⟩:=nf.cat k7 k k2 [] hks;have b1:=(checkR_ok (hk k (by rw [hks]; simp))).2.2;have b2:=(checkR_ok (hk k2 (by rw [hks]; simp))).2.2;have f1:c.shape.set c.axis.toNat (k.shape.getD c.axis.toNat 0)=k.shape:=ext_set t2 fun j hj hne=>((t5 j y5).2 y5).2
  have f2:c.shape.set c.axis.toNat (k2.shape.getD c.axis.toNat 0)=k2.shape:=ext_set y5 fun j hj hne=>by have:=(t5 j y5).2 y5; omega
  have hn1:=b1 (k.shape.getD c.axis.toNat 0) (by rw [getD_el y5]; exact z8 _);have hn2:=b2 (k2.shape.getD c.axis.toNat 0) (by rw [getD_el y5]; exact z8 _);refine .cat k k2 k7 hks y5 y5 t2 y5 f1 f2 ?_;rw [at_getD y5,(t5 c.axis.toNat y5).1 y5,W_in y5 y5]
 obtain ⟨k,hks⟩:=one k1 k7;have hck:=hk k (by rw [hks]; simp);by_cases k2:c.kind=2
 ·obtain ⟨t1,t2,t3⟩:=nf.win k2;exact .win k k2 hks (t3 k [] hks) t1 t2
 by_cases k3:c.kind=3
 ·obtain ⟨t1,t2,t3⟩:=nf.rev (.inl k3) k [] hks;exact .rev k k3 hks t1 y5 y5
 by_cases k4:c.kind=4
 ·obtain ⟨t1,t2,t3⟩:=nf.rev (.inr k4) k [] hks;obtain ⟨t4,t5⟩:=nf.rot k4;have:=c3 (c.shape.getD c.axis.toNat 0) (by rw [getD_el y5]; exact z8 _);exact .rot k k4 hks t1 y5 y5 t4 y5 t5
 by_cases k5:c.kind=5
 ·obtain ⟨t1,t2⟩:=nf.tra k5 k [] hks;have t2:=t2 fun n hn=>((checkR_ok hck).2.2 n hn).1
  refine .tra k k5 hks t1 (fun j hj=>?_) fun i hi=>(t2 i hi).2.2
  obtain ⟨i,hi,rfl⟩:=List.getElem_of_mem hj;have:=t2 i y5;rw [getD_el hi] at this;omega
 exact .rsh k y5 hks
def redV (rsh:List Qc→List Int→List Int→List Qc) (c:Qa) (ls:List (List Qc)):List Qc :=
 if c.kind=1 then (if prodI c.shape=0 then [] else [wholeP c.buffer c.shape])
 else if c.kind=2 then sortT ((winL (kidS c) c.shape c.starts (ls.getD 0 [])).filter fullP)
 else if c.kind=3 then sortT (((ls.getD 0 []).map (revP c.axis.toNat (c.shape.getD c.axis.toNat 0))).filter fullP)
 else if c.kind=4 then sortT (((ls.getD 0 []).flatMap (rotP c.axis.toNat c.amount (c.shape.getD c.axis.toNat 0))).filter fullP)
 else if c.kind=5 then sortT (((ls.getD 0 []).map (perP c.perm c.shape)).filter fullP)
 else if c.kind=6 then rsh (ls.getD 0 []) (kidS c) c.shape
 else sortT (((ls.getD 0 []).map (movP c.axis.toNat 0 65536 0)++(ls.getD 1 []).map (movP c.axis.toNat 0 65536 ((kidS c).getD c.axis.toNat 0))).filter fullP)
mutual
def redF (rsh:List Qc→List Int→List Int→List Qc):Qa→List Qc
 | ⟨k,sh,bu,st,ax,am,pe,ks⟩=>redV rsh ⟨k,sh,bu,st,ax,am,pe,ks⟩ (redFs rsh ks)
def redFs (rsh:List Qc→List Int→List Int→List Qc):List Qa→List (List Qc)
 | []=>[]
 | k::ks=>redF rsh k::redFs rsh ks
end
theorem redF_eq (rsh:List Qc→List Int→List Int→List Qc) (c:Qa):redF rsh c=redV rsh c (redFs rsh c.kids):=by
 cases c; rw [redF]
theorem kid_sz {c k:Qa} (hk:k∈c.kids):szC k < szC c:=by
 obtain ⟨a1,a2,a3,a4,a5,a6,a7,ks⟩:=c;rw [szC]
 have:∀ {l:List Qa},k∈l→szC k≤szCs l:=fun {l}=>by
  induction l with
  | nil=>intro h; simp at h
  | cons a l ih =>
   intro h;rw [szCs];rcases List.mem_cons.1 h with rfl|h
   ·omega
   ·have:=ih h; omega
 have:szC k≤szCs ks:=this hk
 omega
structure StI (G:Qa→Prop) (R:Qa→Qc→Prop) (rsh:List Qc→List Int→List Int→List Qc):Prop where
 whole:∀ c,G c→c.kind=1→prodI c.shape≠0→R c (wholeP c.buffer c.shape)
 win:∀ c k,G c→c.kind=2→c.kids=[k]→∀ x,okB k.shape x.box.lo x.box.hi→wfA k.shape.length x.access→R k x→fullP (winP c.shape c.starts x)=true→R c (winP c.shape c.starts x)
 fil:∀ c k,G c→c.kind=2→c.kids=[k]→∀ b,okB c.shape b.lo b.hi→(∀ i,vld c.shape i=true→inB b.lo b.hi i=true→vld k.shape (List.zipWith (·+·) i c.starts)=false)→R c (fillB b)
 rev:∀ c k,G c→c.kind=3→c.kids=[k]→∀ x,okB k.shape x.box.lo x.box.hi→wfA k.shape.length x.access→R k x→R c (revP c.axis.toNat (c.shape.getD c.axis.toNat 0) x)
 rot:∀ c k,G c→c.kind=4→c.kids=[k]→∀ x,okB k.shape x.box.lo x.box.hi→wfA k.shape.length x.access→R k x→∀ y∈rotP c.axis.toNat c.amount (c.shape.getD c.axis.toNat 0) x,fullP y=true→R c y
 per:∀ c k,G c→c.kind=5→c.kids=[k]→∀ x,okB k.shape x.box.lo x.box.hi→wfA k.shape.length x.access→R k x→fullP (perP c.perm c.shape x)=true→R c (perP c.perm c.shape x)
 rsh:∀ c k,G c→c.kind=6→c.kids=[k]→∀ l,Inv (R k) k.shape l→Inv (R c) c.shape (rsh l k.shape c.shape)
 ct1:∀ c k k2,G c→c.kind=7→c.kids=[k,k2]→∀ x,okB k.shape x.box.lo x.box.hi→wfA k.shape.length x.access→R k x→R c (movP c.axis.toNat 0 65536 0 x)
 ct2:∀ c k k2,G c→c.kind=7→c.kids=[k,k2]→∀ x,okB k2.shape x.box.lo x.box.hi→wfA k2.shape.length x.access→R k2 x→R c (movP c.axis.toNat 0 65536 (k.shape.getD c.axis.toNat 0) x)
theorem Pre.inv {P:Qc→Prop} {s:List Int} {L:List Qc} (h:Pre P s L):Inv P s (sortT (L.filter fullP)):=by
 have hok:∀ x∈L.filter fullP,okB s x.box.lo x.box.hi:=fun x hx=>by
  obtain ⟨k1,k2⟩:=List.mem_filter.1 hx;exact (h.box x k1).2.2 k2
 have hct:∀ i,vld s i=true→(L.filter fullP).countP (hasP i)=1:=fun i hi=>by rw [count_full]; exact h.cnt i hi
 have hd:=dist_of hok fun i hi=>by have:=hct i hi; omega
 have hp:=sortT_perm (L.filter fullP);refine ⟨fun x hx=>hok x (hp.mem_iff.1 hx),fun x hx=>h.acc x (List.mem_filter.1 (hp.mem_iff.1 hx)).1,fun x hx=>?_,fun i hi=>(hp.countP_eq _).trans (hct i hi),sort_strict hd⟩;obtain ⟨k1,k2⟩:=List.mem_filter.1 (hp.mem_iff.1 hx);exact h.prp x k1 k2
theorem kidS_of {c k:Qa} {r:List Qa} (h:c.kids=k::r):kidS c=k.shape:=by unfold kidS; rw [h]
section
variable {bs:List (List Int)} {m:Int} {G:Qa→Prop} {R:Qa→Qc→Prop} {rsh:List Qc→List Int→List Int→List Qc}
def GK (bs:List (List Int)) (m:Int) (G:Qa→Prop):Prop:=∀ c,G c→nodesF bs c∧cellsF m c∧∀ k∈c.kids,G k
theorem GK.chk (hG:GK bs m G) {c:Qa} (h:G c):checkR c.shape=0∧prodI c.shape≤m∧c.shape.length≤6:=by
 obtain ⟨⟨q0,q1,q2,_⟩,_⟩:=cellsF_f (hG c h).2.1;exact ⟨q1,q2,q0⟩
theorem GK.nod (hG:GK bs m G) {c:Qa} (h:G c):Nod c:=nod_of (nodesF_f (hG c h).1).1 fun k hk=>(hG.chk ((hG c h).2.2 k hk)).1
theorem redV_1 {c:Qa} {ls:List (List Qc)} (h:c.kind=1):redV rsh c ls=if prodI c.shape=0 then [] else [wholeP c.buffer c.shape]:=if_pos h
theorem redV_2 {c:Qa} {ls:List (List Qc)} (h:c.kind=2):redV rsh c ls=sortT ((winL (kidS c) c.shape c.starts (ls.getD 0 [])).filter fullP):=by
 rw [redV,if_neg y5,if_pos h]
theorem redV_3 {c:Qa} {ls:List (List Qc)} (h:c.kind=3):redV rsh c ls=sortT (((ls.getD 0 []).map (revP c.axis.toNat (c.shape.getD c.axis.toNat 0))).filter fullP):=by
 rw [redV,if_neg y5,if_neg y5,if_pos h]
theorem redV_4 {c:Qa} {ls:List (List Qc)} (h:c.kind=4):redV rsh c ls=sortT (((ls.getD 0 []).flatMap (rotP c.axis.toNat c.amount (c.shape.getD c.axis.toNat 0))).filter fullP):=by
 rw [redV,if_neg y5,if_neg y5,if_neg y5,if_pos h]
theorem redV_5 {c:Qa} {ls:List (List Qc)} (h:c.kind=5):redV rsh c ls=sortT (((ls.getD 0 []).map (perP c.perm c.shape)).filter fullP):=by
 rw [redV,if_neg y5,if_neg y5,if_neg y5,if_neg y5,if_pos h]
theorem redV_6 {c:Qa} {ls:List (List Qc)} (h:c.kind=6):redV rsh c ls=rsh (ls.getD 0 []) (kidS c) c.shape:=by
 rw [redV,if_neg y5,if_neg y5,if_neg y5,if_neg y5,if_neg y5,if_pos h]
theorem redV_7 {c:Qa} {ls:List (List Qc)} (h:c.kind=7):redV rsh c ls=sortT (((ls.getD 0 []).map (movP c.axis.toNat 0 65536 0)++(ls.getD 1 []).map (movP c.axis.toNat 0 65536 ((kidS c).getD c.axis.toNat 0))).filter fullP):=by
 rw [redV,if_neg y5,if_neg y5,if_neg y5,if_neg y5,if_neg y5,if_neg y5]
theorem red_inv (S:StI G R rsh) (hG:GK bs m G):∀ (n:Nat) (c:Qa),szC c≤n→G c→Inv (R c) c.shape (redF rsh c)
 | 0,c,h,_=>by have:=szC_pos c; omega
 | n+1,c,h,hg=>by
  obtain ⟨hch,_,_⟩:=hG.chk hg
  have sub:∀ k∈c.kids,Inv (R k) k.shape (redF rsh k)∧checkR k.shape=0:=fun k hk=>by
   have:=kid_sz hk;exact ⟨red_inv S hG n k y5 ((hG c hg).2.2 k hk),(hG.chk ((hG c hg).2.2 k hk)).1⟩
  rw [redF_eq];cases hG.nod hg with
  | one h1 hk=>rw [redV_1 h1]; exact whole_inv hch fun z=>S.whole c hg h1 z
  | win k h2 hk t1 t2 t3 =>
   obtain ⟨i1,j1⟩:=sub k (by rw [hk]; simp);rw [redV_2 h2,kidS_of hk,hk,redFs];exact (Win_pre (Q:=R c) i1 j1 hch t1 t2 t3 (fun x _ hb ha hp hf=>S.win c k hg h2 hk x hb ha hp hf) (fun b hb hv=>S.fil c k hg h2 hk b hb hv)).inv
  | rev k h3 hk t1 t2 t3 =>
   obtain ⟨i1,j1⟩:=sub k (by rw [hk]; simp);rw [redV_3 h3,hk,redFs];rw [t1] at i1;exact (Rev_pre (Q:=R c) i1 (at_getD t3) (fun x _ hb ha hp=>S.rev c k hg h3 hk x (by rw [t1]; exact hb) (by rw [t1]; exact ha) hp)).inv
  | rot k h4 hk t1 t2 t3 t4 t5 t6 =>
   obtain ⟨i1,j1⟩:=sub k (by rw [hk]; simp);rw [redV_4 h4,hk,redFs];rw [t1] at i1;exact (Rot_pre (Q:=R c) i1 (at_getD t3) t4 t5 (fun x _ hb ha hp=>S.rot c k hg h4 hk x (by rw [t1]; exact hb) (by rw [t1]; exact ha) hp)).inv
  | tra k h5 hk t1 t2 t3 =>
   obtain ⟨i1,j1⟩:=sub k (by rw [hk]; simp);rw [redV_5 h5,hk,redFs];exact (Tra_pre (Q:=R c) i1 t1 t2 t3 (fun x _ hb ha hp hf=>S.per c k hg h5 hk x hb ha hp hf)).inv
  | rsh k h6 hk =>
   obtain ⟨i1,j1⟩:=sub k (by rw [hk]; simp);rw [redV_6 h6,kidS_of hk,hk,redFs];exact S.rsh c k hg h6 hk _ i1
  | cat k k2 h7 hk t1 t2 t3 t4 f1 f2 f3 =>
   obtain ⟨i1,j1⟩:=sub k (by rw [hk]; simp);obtain ⟨i2,j2⟩:=sub k2 (by rw [hk]; simp);rw [redV_7 h7,kidS_of hk,hk,redFs,redFs]
   exact (Cat_pre (Q:=R c) (s:=c.shape) (k:=c.axis.toNat) (n1:=k.shape.getD c.axis.toNat 0) (n2:=k2.shape.getD c.axis.toNat 0) (P1:=R k) (P2:=R k2) (by rw [f1]; exact i1) (by rw [f2]; exact i2) hch (by rw [f1]; exact j1) (by rw [f2]; exact j2) f3
    (fun x _ hb ha hp=>S.ct1 c k k2 hg h7 hk x (by rwa [f1] at hb) (by rw [t3]; exact ha) hp) (fun x _ hb ha hp=>S.ct2 c k k2 hg h7 hk x (by rwa [f2] at hb) (by rw [t4]; exact ha) hp)).inv
end
end Go.Proofs.Tryz
