/-
 Models of functions, their walks, and plain laws.
-/
import Derived.Test.YtjcfpjpdopfefaaGreatPmLaw
import Derived.Test.YtjcfpjpdopfefaaGreatKDnfPlainB
namespace Go.Proofs.Tryz
open Go Go.Pm
set_option linter.unusedVariables false
set_option linter.unusedSimpArgs false
set_option maxRecDepth 2000
def perS:List Int→List Int→List Int→List Int
 | j::ps,c::st,out=>perS ps st (out.set j.toNat (W (W (0+out.getD j.toNat 0)+c)))
 | _,_,out=>out
theorem perS_len:∀ (ps st out:List Int),(perS ps st out).length=out.length
 | [],_,_=>rfl
 | _::_,[],_=>rfl
 | j::ps,c::st,out=>by rw [perS,perS_len]; simp
def perA (a:Qk) (perm:List Int) (r:Nat):Qk :=
 if a.kind=1 then a else ⟨a.kind,a.buffer,a.base,perS perm a.strides (List.replicate r 0),a.start,a.step,a.mod⟩
theorem perA_kind (a:Qk) (p:List Int) (r:Nat):(perA a p r).kind=a.kind:=by unfold perA; split <;> rfl
theorem per_wf {r0 r:Nat} {a:Qk} {p:List Int} (h:wfA r0 a):wfA r (perA a p r):=by
 rcases h with h|⟨h1,h2⟩
 ·left; rw [perA_kind]; exact h
 ·right
  refine ⟨by rw [perA_kind]; exact h1,?_⟩
  unfold perA
  rw [if_neg (by omega)]
  simp only [perS_len,List.length_replicate]
theorem tot2 (x y:Int):Xv [x,y]=some (W (W (0+x)+y)):=by
 have l0:((0:Int) < (([x,y]:List Int).length:Int)):=by simp
 have l1:((1:Int) < (([x,y]:List Int).length:Int)):=by simp
 have l2:¬ ((2:Int) < (([x,y]:List Int).length:Int)):=by simp
 have i0:idx [x,y] 0=some x:=rfl
 have i1:idx [x,y] 1=some y:=rfl
 have w0:W (0+1)=1:=by decide
 have w1:W (1+1)=2:=by decide
 unfold Xv
 dsimp only
 rw [ZU]
 simp only [l0,if_true,i0,Qe,w0]
 rw [ZU]
 simp only [l1,if_true,i1,Qe,w1]
 rw [ZU]
 simp only [l2,if_false,Qe]
theorem idx_get {l:List Int} {j:Int} (h0:0≤j) (h:j.toNat < l.length):idx l j=some (l.getD j.toNat 0):=by
 obtain ⟨k,rfl⟩:∃ k:Nat,j=(k:Int):=⟨j.toNat,by omega⟩
 simp only [Int.toNat_natCast] at h ⊢
 rw [idx_ok h,getD_el h]
theorem set_get {l:List Int} {j y:Int} (h0:0≤j) (h:j.toNat < l.length):setM l j y=some (l.set j.toNat y):=by
 simp [setM,h0,h]
theorem Perm_L1 (v1:List Int) (q2 q3 q4:Int) (q5:List Int) (q6:Int) (q5' q6':List Int) (q7 q8 q1 q10:Int) (z2 z3 z4:Int) (z5:List Int) (z6 z7 z8 z9:Int):∀ (ps st pp ps0 out:List Int),st.length=ps.length→ps0.length=pp.length→pp.length+ps.length≤600→out.length=v1.length→(∀ j∈ps,0≤j∧j.toNat < out.length) →
  QA (pp++ps,v1,ps0++st,z2,z3,z4,z5,z6,z7,z8,z9,q10,out,(pp.length:Int))=some (perS ps st out)
 | [],[],pp,ps0,out,h1,h2,h3,h4,hj=>by
  rw [QA]
  simp only [Zc,if_false]; rfl
 | j::ps,c::st,pp,ps0,out,h1,h2,h3,h4,hj=>by
  rw [QA]
  obtain ⟨j0,j1⟩:=hj j (List.mem_cons_self ..)
  have i2:idx (ps0++c::st) (pp.length:Int)=some c:=by rw [← h2]; exact Qz
  have ih:=Perm_L1 v1 q2 q3 q4 q5 q6 q5' q6' q7 q8 q1 q10 z2 z3 z4 z5 z6 z7 z8 z9 ps st (pp++[j]) (ps0++[c]) (out.set j.toNat (W (W (0+out.getD j.toNat 0)+c))) (by simpa using h1) (by simp [h2]) (by simp at h3 ⊢; omega) (by simpa using h4) (fun i hi=>by simpa using hj i (List.mem_cons_of_mem _ hi))
  rw [← Qv,← Qv] at ih
  have h':pp.length≤100000:=by simp at h3; omega
  have hg:ZE (out.length=v1.length)=some ():=guardM_ok h4
  simp only [Zg,if_true,Qz,Qe,hg,idx_get j0 j1,i2,tot2,set_get j0 j1,W_len (x:=j) h',ih]
  rfl
 | [],_::_,_,_,_,h,_,_,_,_=>by simp at h
 | _::_,[],_,_,_,h,_,_,_,_=>by simp at h
theorem mkN_ok {r:Nat} (h:r≤600):makeM 8 (r:Int) (0:Int)=some (List.replicate r 0):=by
 have:=mkS_ok (List.replicate r 0) (by simpa using h)
 simpa using this
theorem per_ok {a:Qk} {perm:List Int} {r:Nat} (h:wfA perm.length a) (hl:perm.length≤600) (hr:r≤600) (hp:∀ j∈perm,0≤j∧j.toNat < r):Yv (a,perm,(r:Int))=some (perA a perm r):=by
 obtain ⟨kd,bu,ba,st,sa,sp,md⟩:=a
 rcases h with h|⟨h1,h2⟩
 ·simp only at h
  subst h
  simp only [Yv,Yf,if_true,Qe,perA]
 ·simp only at h1 h2
  have g1:¬ kd=1:=by omega
  have hg:ZE (mg (List.replicate r (0:Int))=mg (List.replicate r (0:Int)))=some ():=guardM_ok rfl
  have hpm:∀ z9 q10:Int,QA (perm,List.replicate r 0,st,kd,bu,ba,st,sa,sp,md,z9,q10,List.replicate r 0,0)=some (perS perm st (List.replicate r 0)):=fun z9 q10=>by
   have:=Perm_L1 (List.replicate r 0) 0 0 0 [] 0 [] [] 0 0 0 q10 kd bu ba st sa sp md z9 perm st [] [] (List.replicate r 0) h2 rfl (by simpa using hl) rfl (fun j hj=>by simpa using hp j hj)
   simpa using this
  simp only [Yv,Yf,g1,if_false,YT,clone_le (show st.length≤600 by omega),Qe,perA]
  rcases h1 with rfl|rfl
  ·simp only [show ¬ (2:Int)=3 by decide,if_false,Qe,ZY,Q9,mkN_ok hr,hpm,Zj,perS_len,List.length_replicate]
   rw [guardM_ok (by simp [perS_len]),Qe]
  ·simp only [if_true,Qe,ZY,Q9,mkN_ok hr,hpm,Zj,perS_len,List.length_replicate]
   rw [guardM_ok (by simp [perS_len]),Qe]
def perP (perm s:List Int) (x:Qa):Qa:=⟨⟨perLo perm x.box.lo (List.replicate s.length 0),perHi perm x.box.hi s⟩,perA x.access perm s.length⟩
theorem Tra_L2 (v604 v605 p2:List Int) (v201 p0:List Qa) (v202:Int) (v603:Nat) (x:Qa):∀ (ps l h pp pl ph lo hi:List Int),x.box.lo=pl++l→x.box.hi=ph++h→l.length=ps.length→h.length=ps.length→pl.length=pp.length→ph.length=pp.length→pp.length+ps.length≤600→lo.length=v604.length→hi.length=v605.length→(∀ j∈ps,0≤j∧j.toNat < lo.length∧j.toNat < hi.length) →
  Zb (pp++ps,v604,x,v605,p2,v201,p0,v202,v603,lo,hi,(pp.length:Int))=some (perLo ps l lo,perHi ps h hi)
 | [],[],[],pp,pl,ph,lo,hi,e1,e2,h1,h2,h3,h4,h5,h6,h7,hj=>by
  rw [Zb]
  simp only [Zc,if_false]; rfl
 | j::ps,a::l,b::h,pp,pl,ph,lo,hi,e1,e2,h1,h2,h3,h4,h5,h6,h7,hj=>by
  rw [Zb]
  obtain ⟨j0,j1,j2⟩:=hj j (List.mem_cons_self ..)
  have i1:idx x.box.lo (pp.length:Int)=some a:=by rw [e1,← h3]; exact Qz
  have i2:idx x.box.hi (pp.length:Int)=some b:=by rw [e2,← h4]; exact Qz
  have ih:=Tra_L2 v604 v605 p2 v201 p0 v202 v603 x ps l h (pp++[j]) (pl++[a]) (ph++[b]) (lo.set j.toNat (if lo.getD j.toNat 0 < a then a else lo.getD j.toNat 0)) (hi.set j.toNat (if b < hi.getD j.toNat 0 then b else hi.getD j.toNat 0)) (by rw [e1,Qv]) (by rw [e2,Qv]) (by simpa using h1) (by simpa using h2) (by simp [h3]) (by simp [h4]) (by simp at h5 ⊢; omega) (by simpa using h6) (by simpa using h7) (fun i hi=>by simpa using hj i (List.mem_cons_of_mem _ hi))
  rw [← Qv] at ih
  have h':pp.length≤100000:=by simp at h5; omega
  have hg1:ZE (lo.length=v604.length)=some ():=guardM_ok h6
  have hg2:ZE (hi.length=v605.length)=some ():=guardM_ok h7
  simp only [Zg,if_true,Qz,Qe,hg1,hg2,idx_get j0 j1,idx_get j0 j2,i1,i2,set_get j0 j1,set_get j0 j2,W_len (x:=j) h',ih]
  rfl
 | [],_::_,_,_,_,_,_,_,_,_,h,_,_,_,_,_,_,_=>by simp at h
 | [],_,_::_,_,_,_,_,_,_,_,_,h,_,_,_,_,_,_=>by simp at h
 | _::_,[],_,_,_,_,_,_,_,_,h,_,_,_,_,_,_,_=>by simp at h
 | _::_,_,[],_,_,_,_,_,_,_,_,h,_,_,_,_,_,_=>by simp at h
theorem wh2_ok (s:List Int) (h:s.length≤600) (a b:List Int) (c d e:Int) (f:List Int) (g i j:Int) (m:Nat):∃ q,YK (s,a,b,c,d,e,f,g,i,j,m)=some (q,List.replicate s.length 0,s):=by
 refine ⟨mg (List.replicate s.length (0:Int)),?_⟩
 simp only [YK,mkS_ok s h,Qe,clone_le h]
theorem Tra_L1 {s0 s perm:List Int} (hp0:perm.length=s0.length) (hl:perm.length≤600) (hs:s.length≤600) (hp:∀ j∈perm,0≤j∧j.toNat < s.length):∀ (l p out:List Qa),p.length+l.length≤50000→out.length≤p.length→(∀ x∈l,wkB s0 x.box.lo x.box.hi∧wfA s0.length x.access) →
  Q3 (p++l,s,perm,out,(p.length:Int))=some (out++l.map (perP perm s))
 | [],p,out,h,ho,hw=>by
  rw [Q3]
  simp only [Zc,if_false,List.map_nil]; simp only [List.append_nil]
 | x::l,p,out,h,ho,hw=>by
  rw [Q3]
  obtain ⟨hb,ha⟩:=hw x (List.mem_cons_self ..)
  obtain ⟨l1,l2⟩:=wk_len hb
  have ih:=Tra_L1 hp0 hl hs hp l (p++[x]) (out++[perP perm s x]) (by simp at h ⊢; omega) (by simp; omega) (fun y hy=>hw y (List.mem_cons_of_mem _ hy))
  rw [← Qv] at ih
  have h':p.length≤100000:=by simp at h; omega
  obtain ⟨q,eq⟩:=wh2_ok s hs x.box.lo x.box.hi x.access.kind x.access.buffer x.access.base x.access.strides x.access.start x.access.step x.access.mod out.length
  have e2:=Tra_L2 (List.replicate s.length 0) s s out (p++x::l) (p.length:Int) q x perm x.box.lo x.box.hi [] [] [] (List.replicate s.length 0) s rfl rfl (by omega) (by omega) rfl rfl (by simpa using hl) rfl rfl (fun j hj=>⟨(hp j hj).1,by simpa using (hp j hj).2,(hp j hj).2⟩)
  simp only [List.nil_append,List.length_nil,Int.natCast_zero] at e2
  have hx:app 120 out [perP perm s x]=some (out++[perP perm s x]):=app_le (by simp at h ⊢; omega) (by omega)
  have hg1:ZE ((perLo perm x.box.lo (List.replicate s.length 0)).length=(List.replicate s.length (0:Int)).length)=some ():=guardM_ok (perLo_len _ _ _)
  have hg2:ZE ((perHi perm x.box.hi s).length=s.length)=some ():=guardM_ok (perHi_len _ _ _)
  have hpa:=per_ok (a:=x.access) (perm:=perm) (r:=s.length) (by rw [hp0]; exact ha) hl hs hp
  unfold perP at hx ih
  simp only [Zg,if_true,Qz,Qe,eq,e2,hpa,hg1,hg2,hx,W_len (x:=x) h',ih,List.map_cons,List.append_assoc,List.singleton_append]
  rfl
theorem perLo_ge:∀ (ps l lo:List Int) (k:Nat),(∀ j∈ps,0≤j∧j.toNat < lo.length)→lo.getD k 0≤(perLo ps l lo).getD k 0
 | [],_,_,_,_=>Int.le_refl _
 | _::_,[],_,_,_=>Int.le_refl _
 | j::ps,a::l,lo,k,h=>by
  refine Int.le_trans ?_ (perLo_ge ps l _ k fun i hi=>by simpa using h i (List.mem_cons_of_mem _ hi))
  obtain ⟨j0,j1⟩:=h j (List.mem_cons_self ..)
  by_cases e:j.toNat=k
  ·subst e
   simp only [List.getD_eq_getElem?_getD,List.getElem?_set,if_true,j1,Option.getD_some]
   split <;> omega
  ·simp only [List.getD_eq_getElem?_getD,List.getElem?_set,e,if_false,Int.le_refl]
theorem perHi_le:∀ (ps l hi:List Int) (k:Nat),(∀ j∈ps,0≤j∧j.toNat < hi.length)→(perHi ps l hi).getD k 0≤hi.getD k 0
 | [],_,_,_,_=>Int.le_refl _
 | _::_,[],_,_,_=>Int.le_refl _
 | j::ps,a::l,hi,k,h=>by
  refine Int.le_trans (perHi_le ps l _ k fun i hi=>by simpa using h i (List.mem_cons_of_mem _ hi)) ?_
  obtain ⟨j0,j1⟩:=h j (List.mem_cons_self ..)
  by_cases e:j.toNat=k
  ·subst e
   simp only [List.getD_eq_getElem?_getD,List.getElem?_set,if_true,j1,Option.getD_some]
   split <;> omega
  ·simp only [List.getD_eq_getElem?_getD,List.getElem?_set,e,if_false,Int.le_refl]
theorem ok_of:∀ {s l h:List Int},l.length=s.length→h.length=s.length→fullB l h=true→(∀ k,k < s.length→0≤l.getD k 0∧h.getD k 0≤s.getD k 0)→okB s l h
 | [],[],[],_,_,_,_=>trivial
 | n::s,a::l,b::h,h1,h2,hf,hk=>by
  simp only [fullB,Bool.and_eq_true,decide_eq_true_eq] at hf
  have h0:=hk 0 (by simp)
  simp at h0
  exact ⟨⟨h0.1,hf.1,h0.2⟩,ok_of (by simpa using h1) (by simpa using h2) hf.2 fun k hk'=>by simpa using hk (k+1) (by simpa using hk')⟩
 | [],_::_,_,h,_,_,_=>by simp at h
 | [],[],_::_,_,h,_,_=>by simp at h
 | _::_,[],_,h,_,_,_=>by simp at h
 | _::_,_::_,[],_,h,_,_=>by simp at h
theorem rep_getD (r k:Nat):(List.replicate r (0:Int)).getD k 0=0:=by
 simp only [List.getD_eq_getElem?_getD,List.getElem?_replicate]
 split <;> rfl
section
variable {P Q:Qa→Prop} {s0 s perm:List Int} {l:List Qa}
theorem Tra_inv (h:Inv P s0 l) (hc0:checkR s0=0) (hP0:prodI s0≤20000) (hc:checkR s=0) (hp0:perm.length=s0.length) (hp:∀ j∈perm,0≤j∧j.toNat < s.length) (hd:∀ k,k < s0.length→s.getD (perm.getD k 0).toNat 0≤s0.getD k 0) (hQ:∀ x∈l,okB s0 x.box.lo x.box.hi→wfA s0.length x.access→P x→fullP (perP perm s x)=true→Q (perP perm s x)) :
  YL (l,perm,s)=some (sortT ((l.map (perP perm s)).filter fullP))∧Inv Q s (sortT ((l.map (perP perm s)).filter fullP)):=by
 obtain ⟨h1,h2,h3⟩:=checkR_ok hc
 obtain ⟨i1,i2,i3⟩:=checkR_ok hc0
 have hll:=h.len4 hc0 hP0
 have e:=Tra_L1 hp0 (by omega) (by omega) hp l [] [] (by simpa using by omega) (by simp) (fun x hx=>⟨h.wk x hx,h.acc x hx⟩)
 have e':Q3 (l,s,perm,[],0)=some (l.map (perP perm s)):=e
 have hpr:Pre Q s (l.map (perP perm s)):=by
  refine ⟨fun y hy=>?_,fun y hy=>?_,fun y hy hf=>?_,fun i hi=>?_⟩
  ·obtain ⟨x,hx,rfl⟩:=List.mem_map.1 hy
   refine ⟨by simp [perP,perLo_len],by simp [perP,perHi_len],fun hf=>ok_of (by simp [perP,perLo_len]) (by simp [perP,perHi_len]) hf fun k hk=>⟨?_,perHi_le _ _ _ _ hp⟩⟩
   have:=perLo_ge perm x.box.lo (List.replicate s.length 0) k (fun j hj=>by simpa using hp j hj)
   rw [rep_getD] at this
   exact this
  ·obtain ⟨x,hx,rfl⟩:=List.mem_map.1 hy
   exact per_wf (h.acc x hx)
  ·obtain ⟨x,hx,rfl⟩:=List.mem_map.1 hy
   exact hQ x hx (h.box x hx) (h.acc x hx) (h.prp x hx) hf
  ·have hl:=vld_len hi
   rw [cnt_map (j:=perI perm i) fun x hx=>?_]
   ·refine h.cnt _ (vld_of (by simp [perI,hp0]) fun k hk=>?_)
    have hj:=hp (perm.getD k 0) (by rw [getD_el (by omega)]; exact List.getElem_mem _)
    have hv:=vld_get hi (perm.getD k 0).toNat hj.2
    have e:(perI perm i).getD k 0=i.getD (perm.getD k 0).toNat 0:=by
     rw [getD_el (l:=perI perm i) (by simp [perI]; omega),getD_el (l:=perm) (k:=k) (by omega)]
     simp [perI]
    rw [e]
    have:=hd k hk
    omega
   ·obtain ⟨l1,l2⟩:=wk_len (h.wk x hx)
    unfold hasP perP
    rw [inB_per perm x.box.lo x.box.hi _ s i (by omega) (by omega) (by simpa using hl) hl (fun j hj=>by have:=hp j hj; omega),vld_inB hi,Bool.true_and]
 obtain ⟨q1,q2⟩:=hpr.listed hc (by simp; omega)
 refine ⟨?_,q2⟩
 unfold YL
 simp only [e',Qe,q1]
end
def shfs (a:Qk):Nat→List Int→Qk
 | _,[]=>a
 | k,n::st=>shfs (shfA a k n) (k+1) st
theorem shfs_kind:∀ (st:List Int) (a:Qk) (k:Nat),(shfs a k st).kind=a.kind
 | [],_,_=>rfl
 | n::st,a,k=>by rw [shfs,shfs_kind st]; exact add_kind _ _ _
theorem shfs_wf {r:Nat}:∀ (st:List Int) (a:Qk) (k:Nat),wfA r a→wfA r (shfs a k st)
 | [],_,_,h=>h
 | n::st,a,k,h=>by rw [shfs]; exact shfs_wf st _ _ (shf_wf h)
def winP (s st:List Int) (x:Qa):Qa:=⟨⟨clo x.box.lo s st,chi x.box.lo x.box.hi s st⟩,shfs x.access 0 st⟩
theorem W2_ok (p1 p2:List Int) (v201 p0:List Qa) (v202:Int) (v602:Qa) {r:Nat} (hr:r≤600):∀ (st p:List Int) (a:Qk),wfA r a→p.length+st.length≤r →
  ZV (p++st,p1,p2,v201,p0,v202,v602,a.kind,a.buffer,a.base,a.strides,a.start,a.step,a.mod,(p.length:Int))=some ((shfs a p.length st).kind,(shfs a p.length st).buffer,(shfs a p.length st).base,(shfs a p.length st).strides,(shfs a p.length st).start,(shfs a p.length st).step,(shfs a p.length st).mod)
 | [],p,a,hw,h=>by
  rw [ZV]
  simp only [Zc,if_false]; rfl
 | n::st,p,a,hw,h=>by
  rw [ZV]
  have hlt:p.length < r:=by simp at h; omega
  have ih:=W2_ok p1 p2 v201 p0 v202 v602 hr st (p++[n]) (shfA a p.length n) (shf_wf hw) (by simp at h ⊢; omega)
  rw [← Qv] at ih
  have e:Ye (⟨a.kind,a.buffer,a.base,a.strides,a.start,a.step,a.mod⟩,(p.length:Int),n)=some (shfA a p.length n):=shf_ok n hw hlt hr
  simp only [Zg,if_true,Qz,Qe,e,W_len (x:=n) (show p.length≤100000 by omega),ih]
  rw [show (p++[n]).length=p.length+1 by simp]
  rfl
theorem W1_ok {s0 s st:List Int} (hs:s.length≤600) (h0:s0.length=s.length) (hst:st.length=s.length) (p1:List Int):∀ (l p out:List Qa),p.length+l.length≤50000→out.length≤p.length→(∀ x∈l,wkB s0 x.box.lo x.box.hi∧wfA s0.length x.access) →
  ZC (p++l,st,p1,s,out,(p.length:Int))=some (out++l.map (winP s st))
 | [],p,out,h,ho,hw=>by
  rw [ZC]
  simp only [Zc,if_false,List.map_nil]; simp only [List.append_nil]
 | x::l,p,out,h,ho,hw=>by
  rw [ZC]
  obtain ⟨hb,ha⟩:=hw x (List.mem_cons_self ..)
  obtain ⟨l1,l2⟩:=wk_len hb
  have ih:=W1_ok hs h0 hst p1 l (p++[x]) (out++[winP s st x]) (by simp at h ⊢; omega) (by simp; omega) (fun y hy=>hw y (List.mem_cons_of_mem _ hy))
  rw [← Qv] at ih
  have h':p.length≤100000:=by simp at h; omega
  have e2:=W2_ok p1 s out (p++x::l) (p.length:Int) x (r:=s0.length) (by omega) st [] x.access ha (by simp; omega)
  simp only [List.nil_append,List.length_nil,Int.natCast_zero] at e2
  have e1:=clip_ok (lo:=x.box.lo) (hi:=x.box.hi) (t:=s) (st:=st) (by omega) (by omega) (by omega) (by omega)
  have hx:app 120 out [winP s st x]=some (out++[winP s st x]):=app_le (by simp at h ⊢; omega) (by omega)
  unfold winP at hx ih
  simp only [Zg,if_true,Qz,Qe,e2,e1,W_len (x:=x) h']
  refine (congrArg (·>>=_) hx).trans ?_
  rw [Qe,ih]
  simp [winP]
theorem zip_len {i st:List Int} (h:i.length=st.length):(List.zipWith (·+·) i st).length=i.length:=by simp [h]
theorem W3_all (c:Qj):∀ (l p:List Qj) (out:List Qa),p.length+l.length≤50000→out.length+l.length≤90000→ZW (p++l,c,out,(p.length:Int))=some (out++l.map fillB)
 | [],p,out,h,ho=>by
  rw [ZW]
  simp only [Zc,if_false]; simp only [List.map_nil,List.append_nil]
 | b::l,p,out,h,ho=>by
  rw [ZW]
  have h':p.length≤100000:=by simp at h; omega
  have ih:=W3_all c l (p++[b]) (out++[fillB b]) (by simp at h ⊢; omega) (by simp at ho ⊢; omega)
  rw [← Qv] at ih
  have ha:app 120 out [fillB b]=some (out++[fillB b]):=app_le (by simp at h ⊢; omega) (by omega)
  unfold fillB fillA at ha
  simp only [Zg,if_true,Qz,Qe,ha,W_len (x:=b) h']
  refine ih.trans ?_
  simp
section
variable {P Q:Qa→Prop} {s0 s st:List Int} {l:List Qa}
def winL (s0 s st:List Int) (l:List Qa):List Qa:=l.map (winP s st)++(restB s (clo (List.replicate s.length 0) s st) (chi (List.replicate s.length 0) s0 s st)).map fillB
theorem Win_inv (h:Inv P s0 l) (hc0:checkR s0=0) (hP0:prodI s0≤20000) (hc:checkR s=0) (h0:s0.length=s.length) (hst:st.length=s.length) (hb:∀ x∈st,-65536≤x∧x≤65536)
  (hQ:∀ x∈l,okB s0 x.box.lo x.box.hi→wfA s0.length x.access→P x→fullP (winP s st x)=true→Q (winP s st x)) (hF:∀ b,okB s b.lo b.hi→(∀ i,vld s i=true→inB b.lo b.hi i=true→vld s0 (List.zipWith (·+·) i st)=false)→Q (fillB b)) :
  Xy (l,s0,s,st)=some (sortT ((winL s0 s st l).filter fullP))∧Inv Q s (sortT ((winL s0 s st l).filter fullP)):=by
 obtain ⟨h1,h2,h3⟩:=checkR_ok hc
 obtain ⟨i1,i2,i3⟩:=checkR_ok hc0
 have hll:=h.len4 hc0 hP0
 have hn0:∀ n∈s,0≤n:=fun n hn=>(h3 n hn).1
 have hn1:∀ n∈s0,0≤n:=fun n hn=>(i3 n hn).1
 have e:=W1_ok (s0:=s0) (s:=s) (st:=st) (by omega) h0 hst s0 l [] [] (by simpa using by omega) (by simp) (fun x hx=>⟨h.wk x hx,h.acc x hx⟩)
 have e':ZC (l,st,s0,s,[],0)=some (l.map (winP s st)):=e
 have e1:=clip_ok (lo:=List.replicate s.length 0) (hi:=s0) (t:=s) (st:=st) (by simp [hst]) hst.symm (by omega) (by omega)
 have hcw:=clip_wk (lo:=List.replicate s.length 0) (hi:=s0) (t:=s) (st:=st) (by simp [hst]) hst.symm (by omega) hn0
 obtain ⟨g,eg⟩:=whole_ok s (by omega)
 have e2:=Minus_ok h2 (by omega) hn0 hcw
 have hr:=rest_len s (clo (List.replicate s.length 0) s st) (chi (List.replicate s.length 0) s0 s st)
 have e3:=W3_all ⟨clo (List.replicate s.length 0) s st,chi (List.replicate s.length 0) s0 s st⟩ (restB s (clo (List.replicate s.length 0) s st) (chi (List.replicate s.length 0) s0 s st)) [] (l.map (winP s st)) (by simp; omega) (by simp; omega)
 simp only [List.nil_append,List.length_nil,Int.natCast_zero] at e3
 have hinn:∀ i,vld s i=true→inB (clo (List.replicate s.length 0) s st) (chi (List.replicate s.length 0) s0 s st) i=vld s0 (List.zipWith (·+·) i st):=fun i hi=>by
  have hl:=vld_len hi
  rw [inB_win hi (by simp) (by omega) hst (fun x hx=>by have:=(List.mem_replicate.1 hx).2; omega) (fun x hx=>i3 x hx) hb]
  have hz:=zip_len (i:=i) (st:=st) (by omega)
  cases hv:vld s0 (List.zipWith (·+·) i st) with
  | true=>have:=vld_inB hv; rw [h0] at this; exact this
  | false =>
   cases hh:inB (List.replicate s.length 0) s0 (List.zipWith (·+·) i st) with
   | false=>rfl
   | true =>
    rw [← h0] at hh
    have:=inB_vld (wk_whole hn1) hh
    rw [hv] at this; cases this
 have hrest:∀ i,vld s i=true→((restB s (clo (List.replicate s.length 0) s st) (chi (List.replicate s.length 0) s0 s st)).map fillB).countP (hasP i)=if vld s0 (List.zipWith (·+·) i st)=true then 0 else 1:=fun i hi=>by
  have:=rest_count fillA hcw hi
  rw [List.countP_cons] at this
  have e:hasP i (⟨⟨clo (List.replicate s.length 0) s st,chi (List.replicate s.length 0) s0 s st⟩,fillA⟩:Qa)=vld s0 (List.zipWith (·+·) i st):=hinn i hi
  rw [e] at this
  split at this <;> rename_i hv
  ·rw [if_pos hv]; omega
  ·rw [if_neg hv]; omega
 have hhas:∀ i,vld s i=true→∀ x∈l,hasP i (winP s st x)=hasP (List.zipWith (·+·) i st) x:=fun i hi x hx=>by
  obtain ⟨l1,l2⟩:=wk_len (h.wk x hx)
  obtain ⟨b1,b2⟩:=wk_bnd (fun n hn=>(i3 n hn).2) (h.wk x hx)
  exact inB_win hi (by omega) (by omega) hst b1 b2 hb
 have hpr:Pre Q s (winL s0 s st l):=by
  refine ⟨fun y hy=>?_,fun y hy=>?_,fun y hy hf=>?_,fun i hi=>?_⟩
  ·rcases List.mem_append.1 hy with hy|hy
   ·obtain ⟨x,hx,rfl⟩:=List.mem_map.1 hy
    obtain ⟨l1,l2⟩:=wk_len (h.wk x hx)
    exact wk_qk (clip_wk (by omega) (by omega) (by omega) hn0)
   ·obtain ⟨b,hb,rfl⟩:=List.mem_map.1 hy
    exact wk_qk (rest_wk hn0 hcw b hb)
  ·rcases List.mem_append.1 hy with hy|hy
   ·obtain ⟨x,hx,rfl⟩:=List.mem_map.1 hy
    have:=h.acc x hx
    rw [h0] at this
    exact shfs_wf _ _ _ this
   ·obtain ⟨b,hb,rfl⟩:=List.mem_map.1 hy
    exact .inl rfl
  ·rcases List.mem_append.1 hy with hy|hy
   ·obtain ⟨x,hx,rfl⟩:=List.mem_map.1 hy
    exact hQ x hx (h.box x hx) (h.acc x hx) (h.prp x hx) hf
   ·obtain ⟨b,hb,rfl⟩:=List.mem_map.1 hy
    refine hF b (wk_ok (rest_wk hn0 hcw b hb) hf) fun i hi hh=>?_
    have:=hrest i hi
    cases hv:vld s0 (List.zipWith (·+·) i st) with
    | false=>rfl
    | true =>
     rw [if_pos hv,List.countP_eq_zero] at this
     exact absurd hh (this (fillB b) (List.mem_map.2 ⟨b,hb,rfl⟩))
  ·unfold winL
   rw [List.countP_append,hrest i hi,cnt_map (hhas i hi)]
   by_cases hv:vld s0 (List.zipWith (·+·) i st)=true
   ·rw [if_pos hv,h.cnt _ hv]
   ·rw [if_neg hv]
    have:l.countP (hasP (List.zipWith (·+·) i st))=0:=by
     rw [List.countP_eq_zero]
     intro x hx hh
     exact hv (inB_vld (h.wk x hx) hh)
    rw [this]
 obtain ⟨q1,q2⟩:=hpr.listed hc (by unfold winL; simp; omega)
 refine ⟨?_,q2⟩
 unfold Xy
 simp only [e',Qe,mkS_ok s (show s.length≤600 by omega),e1,eg,e2,e3]
 show (Q8 (winL s0 s st l)>>=fun v=>some v)=_
 rw [q1,Qe]
end
def mR (c:Qf):Option (List Qa):=Za (c.kind,c.shape,c.buffer,c.starts,c.axis,c.amount,c.perm,c.kids)
structure Stp (G:Qb→Prop) (R:Qb→Qa→Prop):Prop where
 whole:∀ c,G c→c.kind=1→prodI c.shape≠0→R c (wholeP c.buffer c.shape)
 win:∀ c k,G c→c.kind=2→c.kids=[k]→∀ x,okB k.shape x.box.lo x.box.hi→wfA k.shape.length x.access→R k x→fullP (winP c.shape c.starts x)=true→R c (winP c.shape c.starts x)
 fil:∀ c k,G c→c.kind=2→c.kids=[k]→∀ b,okB c.shape b.lo b.hi→(∀ i,vld c.shape i=true→inB b.lo b.hi i=true→vld k.shape (List.zipWith (·+·) i c.starts)=false)→R c (fillB b)
 rev:∀ c k,G c→c.kind=3→c.kids=[k]→∀ x,okB k.shape x.box.lo x.box.hi→wfA k.shape.length x.access→R k x→R c (revP c.axis.toNat (c.shape.getD c.axis.toNat 0) x)
 rot:∀ c k,G c→c.kind=4→c.kids=[k]→∀ x,okB k.shape x.box.lo x.box.hi→wfA k.shape.length x.access→R k x→∀ y∈rotP c.axis.toNat c.amount (c.shape.getD c.axis.toNat 0) x,fullP y=true→R c y
 per:∀ c k,G c→c.kind=5→c.kids=[k]→∀ x,okB k.shape x.box.lo x.box.hi→wfA k.shape.length x.access→R k x→fullP (perP c.perm c.shape x)=true→R c (perP c.perm c.shape x)
 rsh:∀ c k,G c→c.kind=6→c.kids=[k]→∀ l,Inv (R k) k.shape l→∃ r,Xw (l,k.shape,c.shape)=some r∧Inv (R c) c.shape r
 ct1:∀ c k k2,G c→c.kind=7→c.kids=[k,k2]→∀ x,okB k.shape x.box.lo x.box.hi→wfA k.shape.length x.access→R k x→R c (movP c.axis.toNat 0 65536 0 x)
 ct2:∀ c k k2,G c→c.kind=7→c.kids=[k,k2]→∀ x,okB k2.shape x.box.lo x.box.hi→wfA k2.shape.length x.access→R k2 x→R c (movP c.axis.toNat 0 65536 (k.shape.getD c.axis.toNat 0) x)
theorem l1_nil (q0:Int) (q1:List Int) (q2:Int) (q3:List Int) (q4 q5:Int) (q6:List Int):Qt ([],q0,q1,q2,q3,q4,q5,q6,[],0)=some []:=by
 rw [Qt]
 have:¬ ((0:Int) < (([]:List Qf).length:Int)):=by simp
 simp only [this,if_false]
theorem l1_one (q0:Int) (q1:List Int) (q2:Int) (q3:List Int) (q4 q5:Int) (q6:List Int) {k:Qf} {l:List Qa} (h:mR k=some l):Qt ([k],q0,q1,q2,q3,q4,q5,q6,[],0)=some [l]:=by
 have g0:((0:Int) < (([k]:List Qf).length:Int)):=by simp
 have g1:¬ ((1:Int) < (([k]:List Qf).length:Int)):=by simp
 have i0:idx [k] 0=some k:=rfl
 have w0:W (0+1)=1:=by decide
 unfold mR at h
 rw [Qt]
 simp only [g0,if_true,i0,Qe,h,w0]
 rw [app_le (by simp) (by omega),Qe,Qt]
 simp only [g1,if_false,List.nil_append]
theorem l1_two (q0:Int) (q1:List Int) (q2:Int) (q3:List Int) (q4 q5:Int) (q6:List Int) {k k2:Qf} {l l2:List Qa} (h:mR k=some l) (h2:mR k2=some l2):Qt ([k,k2],q0,q1,q2,q3,q4,q5,q6,[],0)=some [l,l2]:=by
 have g0:((0:Int) < (([k,k2]:List Qf).length:Int)):=by simp
 have g1:((1:Int) < (([k,k2]:List Qf).length:Int)):=by simp
 have g2:¬ ((2:Int) < (([k,k2]:List Qf).length:Int)):=by simp
 have i0:idx [k,k2] 0=some k:=rfl
 have i1:idx [k,k2] 1=some k2:=rfl
 have w0:W (0+1)=1:=by decide
 have w1:W (1+1)=2:=by decide
 unfold mR at h h2
 rw [Qt]
 simp only [g0,if_true,i0,Qe,h,w0]
 rw [app_le (by simp) (by omega),Qe,Qt]
 simp only [g1,if_true,i1,Qe,h2,w1]
 rw [app_le (by simp) (by omega),Qe,Qt]
 simp only [g2,if_false,List.nil_append,List.singleton_append]
theorem conv_shape:∀ c:Qb,(conv c).shape=c.shape
 | ⟨_,_,_,_,_,_,_,_⟩=>by rw [conv]
theorem whole_inv {P:Qa→Prop} {s:List Int} {b:Int} (hc:checkR s=0) (hP:prodI s≠0→P (wholeP b s)):Inv P s (if prodI s=0 then [] else [wholeP b s]):=by
 obtain ⟨h1,h2,h3⟩:=checkR_ok hc
 have hn:∀ n∈s,0≤n:=fun n hn=>(h3 n hn).1
 by_cases z:prodI s=0
 ·rw [if_pos z]
  refine ⟨fun x hx=>by simp at hx,fun x hx=>by simp at hx,fun x hx=>by simp at hx,fun i hi=>?_,rfl⟩
  have:=prodI_pos (vld_pos hi)
  omega
 ·rw [if_neg z]
  refine ⟨fun x hx=>?_,fun x hx=>?_,fun x hx=>?_,fun i hi=>?_,rfl⟩
  ·simp only [List.mem_singleton] at hx
   subst hx
   exact wk_ok (wk_whole hn) (full_whole (prodI_zero_iff hn z))
  ·simp only [List.mem_singleton] at hx
   subst hx
   exact .inr ⟨.inl rfl,strd_len s⟩
  ·simp only [List.mem_singleton] at hx
   subst hx
   exact hP z
  ·have:hasP i (wholeP b s)=true:=vld_inB hi
   simp [this]
theorem ext_set {s a:List Int} {k:Nat} (hl:a.length=s.length) (h:∀ j,j < s.length→j≠k→a.getD j 0=s.getD j 0):s.set k (a.getD k 0)=a:=by
 refine List.ext_getElem (by simp [hl]) fun j h1 h2=>?_
 rw [List.getElem_set]
 split
 ·rename_i e; subst e; exact getD_el h2
 ·rename_i e
  have:=h j (by simpa using h1) (fun e'=>e e'.symm)
  rw [getD_el h2,getD_el (by simpa using h1)] at this
  exact this.symm
section
variable {bs:List (List Int)} {m:Int} {G:Qb→Prop} {R:Qb→Qa→Prop}
theorem red_ok (S:Stp G R) (hm:m≤20000) (hG:∀ c,G c→nodesF bs c∧cellsF m c∧∀ k∈c.kids,G k):∀ (n:Nat) (c:Qb),szC c≤n→G c→∃ l,mR (conv c)=some l∧Inv (R c) c.shape l
 | 0,c,h,_=>by have:=szC_pos c; omega
 | n+1,c,h,hg=>by
  obtain ⟨hn,hcl,hk⟩:=hG c hg
  obtain ⟨nf,_,_⟩:=nodesF_f hn
  obtain ⟨⟨_,hch,hpr,_⟩,hck⟩:=cellsF_f hcl
  obtain ⟨c1,c2,c3⟩:=checkR_ok hch
  have sub:∀ k∈c.kids,∃ l,mR (conv k)=some l∧Inv (R k) k.shape l∧checkR k.shape=0∧prodI k.shape≤20000:=fun k hkm=>by
   have hsz:szC k < szC c:=by
    obtain ⟨a1,a2,a3,a4,a5,a6,a7,ks⟩:=c
    rw [szC]
    have:∀ {l:List Qb},k∈l→szC k≤szCs l:=fun {l}=>by
     induction l with
     | nil=>intro h; simp at h
     | cons a l ih =>
      intro h
      rw [szCs]
      rcases List.mem_cons.1 h with rfl|h
      ·omega
      ·have:=ih h; omega
    have:szC k≤szCs ks:=this hkm
    omega
   obtain ⟨l,e1,e2⟩:=red_ok S hm hG n k (by omega) (hk k hkm)
   obtain ⟨⟨_,q1,q2,_⟩,_⟩:=cellsF_f (hck k hkm)
   exact ⟨l,e1,e2,q1,by omega⟩
  clear hG
  obtain ⟨kd,sh,bu,st,ax,am,pe,ks⟩:=c
  simp only at *
  have one:kd≠1→kd≠7→∃ k,ks=[k]:=fun n1 n7=>by
   have:=nf.kids
   simp only at this
   rw [if_neg n7,if_neg n1] at this
   match ks,this with
   | [k],_=>exact ⟨k,rfl⟩
   | [],h=>simp at h
   | _::_::_,h=>simp at h; omega
  have hkd:=nf.kind
  simp only at hkd
  rw [conv]
  unfold mR
  dsimp only
  rw [Za]
  by_cases k1:kd=1
  ·subst k1
   have hks:ks=[]:=by
    have:=nf.kids
    simp only [show ¬ (1:Int)=7 by decide,if_false,if_true] at this
    exact List.eq_nil_of_length_eq_zero (by omega)
   subst hks
   simp only [convs,l1_nil,Qe,if_true,Y1,pWhole_ok bu hch]
   exact ⟨_,rfl,whole_inv hch fun z=>S.whole _ hg rfl z⟩
  by_cases k7:kd=7
  ·subst k7
   obtain ⟨k,k2,rfl⟩:∃ k k2,ks=[k,k2]:=by
    have:=nf.kids
    simp only [if_true] at this
    match ks,this with
    | [a,b],_=>exact ⟨a,b,rfl⟩
    | [],h=>simp at h
    | [_],h=>simp at h
    | _::_::_::_,h=>simp at h; omega
   obtain ⟨l,e1,i1,j1,j2⟩:=sub k (by simp)
   obtain ⟨l2,e2,i2,j3,j4⟩:=sub k2 (by simp)
   obtain ⟨t1,t2,t3,t4,t5⟩:=nf.cat rfl k k2 [] rfl
   simp only at t1 t2 t3 t4 t5
   have hax:ax=(ax.toNat:Int):=by omega
   have b1:=(checkR_ok j1).2.2
   have b2:=(checkR_ok j3).2.2
   have f1:sh.set ax.toNat (k.shape.getD ax.toNat 0)=k.shape:=ext_set t2 fun j hj hne=>((t5 j (by omega)).2 (by omega)).2
   have f2:sh.set ax.toNat (k2.shape.getD ax.toNat 0)=k2.shape:=ext_set (by omega) fun j hj hne=>by have:=(t5 j (by omega)).2 (by omega); omega
   have hn1:=b1 (k.shape.getD ax.toNat 0) (by rw [getD_el (by omega)]; exact List.getElem_mem _)
   have hn2:=b2 (k2.shape.getD ax.toNat 0) (by rw [getD_el (by omega)]; exact List.getElem_mem _)
   have f3:sh[ax.toNat]? = some (k.shape.getD ax.toNat 0+k2.shape.getD ax.toNat 0):=by
    rw [at_getD (by omega),(t5 ax.toNat (by omega)).1 hax.symm,W_in (by omega) (by omega)]
   have:=Cat_inv (Q:=R ⟨7,sh,bu,st,ax,am,pe,[k,k2]⟩) (s:=sh) (k:=ax.toNat) (n1:=k.shape.getD ax.toNat 0) (n2:=k2.shape.getD ax.toNat 0) (l1:=l) (l2:=l2) (P1:=R k) (P2:=R k2) (by rw [f1]; exact i1) (by rw [f2]; exact i2) hch (by omega) (by rw [f1]; exact j1) (by rw [f2]; exact j3) (by rw [f1]; exact j2) (by rw [f2]; exact j4) f3
    (fun x _ hb ha hp=>S.ct1 _ k k2 hg rfl rfl x (by rwa [f1] at hb) (by rw [t2]; exact ha) hp) (fun x _ hb ha hp=>S.ct2 _ k k2 hg rfl rfl x (by rwa [f2] at hb) (by rw [← t1,t2]; exact ha) hp)
   rw [← hax] at this
   have g7:∀ j:Int,j≠7→¬ (7:Int)=j:=fun j h e=>h e.symm
   have ix:idx k.shape ax=some (k.shape.getD ax.toNat 0):=by have q:=idx_at (at_getD (l:=k.shape) (k:=ax.toNat) (by omega)); rwa [← hax] at q
   have p0:idx [l,l2] 0=some l:=rfl
   have p1:idx [l,l2] 1=some l2:=rfl
   have p2:idx [conv k,conv k2] 0=some (conv k):=rfl
   simp only [convs,l1_two _ _ _ _ _ _ _ e1 e2,Qe,show ¬ (7:Int)=1 by decide,show ¬ (7:Int)=2 by decide,show ¬ (7:Int)=3 by decide,show ¬ (7:Int)=4 by decide,show ¬ (7:Int)=5 by decide,show ¬ (7:Int)=6 by decide,if_false,if_true,Y7,p0,p1,p2,conv_shape,ix,this.1]
   exact ⟨_,rfl,this.2⟩
  obtain ⟨k,rfl⟩:=one k1 k7
  obtain ⟨l,e1,i1,j1,j2⟩:=sub k (by simp)
  have p0:idx [l] 0=some l:=rfl
  have p2:idx [conv k] 0=some (conv k):=rfl
  simp only [convs,l1_one _ _ _ _ _ _ _ e1,Qe,k1,if_false]
  by_cases k2:kd=2
  ·subst k2
   obtain ⟨t1,t2,t3⟩:=nf.win rfl
   have t3:=t3 k [] rfl
   simp only at t1 t2 t3
   have:=Win_inv (Q:=R ⟨2,sh,bu,st,ax,am,pe,[k]⟩) (st:=st) i1 j1 j2 hch t3 t1 t2 (fun x _ hb ha hp hf=>S.win _ k hg rfl rfl x hb ha hp hf) (fun b hb hv=>S.fil _ k hg rfl rfl b hb hv)
   simp only [if_true,Y2,p0,p2,Qe,conv_shape,this.1]
   exact ⟨_,rfl,this.2⟩
  simp only [k2,if_false]
  by_cases k3:kd=3
  ·subst k3
   obtain ⟨t1,t2,t3⟩:=nf.rev (.inl rfl) k [] rfl
   simp only at t1 t2 t3
   have hax:ax=(ax.toNat:Int):=by omega
   have hs:sh[ax.toNat]? = some (sh.getD ax.toNat 0):=at_getD (by omega)
   rw [t1] at i1 j1 j2
   have:=Rev_inv (Q:=R ⟨3,sh,bu,st,ax,am,pe,[k]⟩) i1 j1 j2 hs (fun x _ hb ha hp=>S.rev _ k hg rfl rfl x (by rw [t1]; exact hb) (by rw [t1]; exact ha) hp)
   rw [← hax] at this
   have ix:idx sh ax=some (sh.getD ax.toNat 0):=by have q:=idx_at hs; rwa [← hax] at q
   simp only [if_true,Y3,p0,Qe,ix,this.1]
   exact ⟨_,rfl,this.2⟩
  simp only [k3,if_false]
  by_cases k4:kd=4
  ·subst k4
   obtain ⟨t1,t2,t3⟩:=nf.rev (.inr rfl) k [] rfl
   obtain ⟨t4,t5⟩:=nf.rot rfl
   simp only at t1 t2 t3 t4 t5
   have hax:ax=(ax.toNat:Int):=by omega
   have hs:sh[ax.toNat]? = some (sh.getD ax.toNat 0):=at_getD (by omega)
   have hnn:=c3 _ (List.mem_of_getElem? hs)
   rw [t1] at i1 j1 j2
   have:=Rot_inv (Q:=R ⟨4,sh,bu,st,ax,am,pe,[k]⟩) (m:=am) i1 j1 j2 hs t4 (by omega) (fun x _ hb ha hp=>S.rot _ k hg rfl rfl x (by rw [t1]; exact hb) (by rw [t1]; exact ha) hp)
   rw [← hax] at this
   have ix:idx sh ax=some (sh.getD ax.toNat 0):=by have q:=idx_at hs; rwa [← hax] at q
   simp only [if_true,Y4,p0,Qe,ix,this.1]
   exact ⟨_,rfl,this.2⟩
  simp only [k4,if_false]
  by_cases k5:kd=5
  ·subst k5
   obtain ⟨t1,t2⟩:=nf.tra rfl k [] rfl
   simp only at t1 t2
   have b1:=(checkR_ok j1).2.2
   have t2:=t2 fun n hn=>(b1 n hn).1
   have hp:∀ j∈pe,0≤j∧j.toNat < sh.length:=fun j hj=>by
    obtain ⟨i,hi,rfl⟩:=List.getElem_of_mem hj
    have:=t2 i (by omega)
    rw [getD_el hi] at this
    omega
   have:=Tra_inv (Q:=R ⟨5,sh,bu,st,ax,am,pe,[k]⟩) i1 j1 j2 hch t1 hp (fun i hi=>(t2 i hi).2.2) (fun x _ hb ha hp hf=>S.per _ k hg rfl rfl x hb ha hp hf)
   simp only [if_true,Y5,p0,Qe,this.1]
   exact ⟨_,rfl,this.2⟩
  simp only [k5,if_false]
  have k6:kd=6:=by omega
  subst k6
  obtain ⟨r,q1,q2⟩:=S.rsh _ k hg rfl rfl l i1
  simp only at q1 q2
  simp only [if_true,Y6,p0,p2,Qe,conv_shape,q1]
  exact ⟨_,rfl,q2⟩
end
mutual
def plainF:Qb→Prop
 | ⟨k,sh,_,_,_,_,_,ks⟩=>(k=6→∀ a r,ks=a::r→sh=a.shape)∧plainFs ks
def plainFs:List Qb→Prop
 | []=>True
 | k::ks=>plainF k∧plainFs ks
end
theorem plainFs_mem:∀ {l:List Qb},plainFs l→∀ k∈l,plainF k
 | x::l,h,k,hk=>by
  rw [plainFs] at h
  rcases List.mem_cons.1 hk with rfl|hk
  ·exact h.1
  ·exact plainFs_mem h.2 k hk
 | [],_,_,hk=>by cases hk
theorem plainF_f {c:Qb} (h:plainF c):(c.kind=6→∀ a r,c.kids=a::r→c.shape=a.shape)∧∀ k∈c.kids,plainF k:=by
 cases c; rw [plainF] at h; exact ⟨h.1,plainFs_mem h.2⟩
mutual
theorem Plain_ok (bs:List (List Int)):∀ (c:Qb),smC c→nodesF bs c→∃ b,YS c=some b∧(b=true→plainF c)
 | ⟨k,sh,bu,st,ax,am,pe,ks⟩,h,hn=>by
  have hf:=smC_f h
  have hnn:=nodesF_f hn
  rw [YS]
  obtain ⟨o,e2,ho⟩:=Plain_loop bs ks [] k sh bu st ax am pe hf.2.2.2.2 hnn.2.2 (by have:=hf.2.2.2.1; simpa using this)
  simp only [List.nil_append,List.length_nil,Int.natCast_zero] at e2
  by_cases k6:k=6
  ·subst k6
   obtain ⟨a,rfl⟩:∃ a,ks=[a]:=by
    have:=hnn.1.kids
    simp only [show ¬ (6:Int)=7 by decide,show ¬ (6:Int)=1 by decide,if_false] at this
    match ks,this with
    | [k],_=>exact ⟨k,rfl⟩
    | [],h=>simp at h
    | _::_::_,h=>simp at h; omega
   have i0:idx [a] 0=some a:=rfl
   have hS:Sm sh.length:=Sm_of (show sh.length≤1000 by have:=hf.1; simp only at this; omega)
   simp only [if_true,i0,Qe,Equal_ok sh a.shape hS]
   by_cases e:sh=a.shape
   ·simp only [e,decide_true,Bool.not_true,Bool.false_eq_true,if_false]
    rw [← e,e2,Qe]
    cases o with
    | inl _=>exact ⟨false,rfl,fun h=>by cases h⟩
    | inr _=>exact ⟨true,rfl,fun _=>by rw [plainF]; exact ⟨fun _ b r hb=>by cases hb; exact e,ho rfl⟩⟩
   ·simp only [e,decide_false,Bool.not_false,if_true]
    exact ⟨false,rfl,fun h=>by cases h⟩
  ·simp only [k6,if_false,Qe,Bool.false_eq_true,e2]
   cases o with
   | inl _=>exact ⟨false,rfl,fun h=>by cases h⟩
   | inr _=>exact ⟨true,rfl,fun _=>by rw [plainF]; exact ⟨fun h=>absurd h k6,ho rfl⟩⟩
theorem Plain_loop (bs:List (List Int)):∀ (s p:List Qb) (k:Int) (sh:List Int) (b:Int) (st:List Int) (ax am:Int) (pe:List Int),smCs s→(∀ x∈s,nodesF bs x)→p.length+s.length≤600 →
  ∃ o,Zs (⟨k,sh,b,st,ax,am,pe,p++s⟩,(p.length:Int))=some o∧(o=.inr ()→plainFs s)
 | [],p,k,sh,b,st,ax,am,pe,h1,h2,h3=>by
  rw [Zs]; simp only [Zc,if_false]
  exact ⟨_,rfl,fun _=>trivial⟩
 | x::s,p,k,sh,b,st,ax,am,pe,h1,h2,h3=>by
  rw [Zs]
  rw [smCs] at h1
  obtain ⟨v,e,hv⟩:=Plain_ok bs x h1.1 (h2 x (List.mem_cons_self ..))
  obtain ⟨o,e',ho⟩:=Plain_loop bs s (p++[x]) k sh b st ax am pe h1.2 (fun y hy=>h2 y (List.mem_cons_of_mem _ hy)) (by simp at h3 ⊢; omega)
  rw [← Qv] at e'
  simp only [Zg,if_true,Qz,Qe,e,J0 h3,e']
  cases v with
  | false=>exact ⟨.inl (),rfl,fun h=>by cases h⟩
  | true=>exact ⟨o,rfl,fun h=>by rw [plainFs]; exact ⟨hv rfl,ho h⟩⟩
end
mutual
def winC:Qb→Bool
 | ⟨k,_,_,_,_,_,_,ks⟩=>decide (k=2) || winCs ks
def winCs:List Qb→Bool
 | []=>false
 | k::ks=>winC k || winCs ks
end
theorem winCs_mem:∀ {l:List Qb},∀ k∈l,winC k=true→winCs l=true
 | x::l,k,hk,h=>by
  rw [winCs]
  rcases List.mem_cons.1 hk with rfl|hk
  ·simp [h]
  ·simp [winCs_mem k hk h]
theorem winC_f {c k:Qb} (hk:k∈c.kids) (h:winC k=true):winC c=true:=by
 cases c; rw [winC]; simp [winCs_mem k hk h]
mutual
theorem wins_ok:∀ (c:Qb),smC c→Yn c=some (winC c)
 | ⟨k,sh,bu,st,ax,am,pe,ks⟩,h=>by
  have hf:=smC_f h
  rw [Yn]
  have e2:=wins_loop ks [] k sh bu st ax am pe hf.2.2.2.2 (by have:=hf.2.2.2.1; simpa using this)
  simp only [List.nil_append,List.length_nil,Int.natCast_zero] at e2
  simp only [e2,Qe,winC]
  by_cases k2:k=2
  ·simp [k2]
  ·simp only [k2,if_false,decide_false,Bool.false_or]
   cases winCs ks <;> rfl
theorem wins_loop:∀ (s p:List Qb) (k:Int) (sh:List Int) (b:Int) (st:List Int) (ax am:Int) (pe:List Int),smCs s→p.length+s.length≤600 →
  Q4 (⟨k,sh,b,st,ax,am,pe,p++s⟩,(p.length:Int))=some (if winCs s then .inl () else .inr ())
 | [],p,k,sh,b,st,ax,am,pe,h1,h2=>by
  rw [Q4]; simp only [Zc,if_false]; rfl
 | x::s,p,k,sh,b,st,ax,am,pe,h1,h2=>by
  rw [Q4]
  rw [smCs] at h1
  have e:=wins_ok x h1.1
  have e':=wins_loop s (p++[x]) k sh b st ax am pe h1.2 (by simp at h2 ⊢; omega)
  rw [← Qv] at e'
  simp only [Zg,if_true,Qz,Qe,e,J0 h2,e',winCs]
  by_cases hw:winC x=true
  ·simp [hw]
  ·simp [hw]
end
def kindN (k:Int) (l:List Qa):Nat:=l.countP fun x=>x.access.kind == k
theorem Kinds_L1:∀ (l p:List Qa) (a b c:Nat),p.length+l.length≤50000→a+b+c≤p.length→(∀ x∈l,x.access.kind=1∨x.access.kind=2∨x.access.kind=3) →
  ZG (p++l,(a:Int),(b:Int),(c:Int),(p.length:Int))=some (((a+kindN 1 l:Nat):Int),((b+kindN 2 l:Nat):Int),((c+kindN 3 l:Nat):Int))
 | [],p,a,b,c,h,hs,hk=>by
  rw [ZG]
  simp only [Zc,if_false]; rfl
 | x::l,p,a,b,c,h,hs,hk=>by
  rw [ZG]
  have h':p.length≤100000:=by simp at h; omega
  have ih:=fun a b c hs=>Kinds_L1 l (p++[x]) a b c (by simp at h ⊢; omega) hs (fun y hy=>hk y (List.mem_cons_of_mem _ hy))
  simp only [← Qv] at ih
  have wn:∀ n:Nat,n≤100000→W ((n:Int)+1)=((n+1:Nat):Int):=fun n hn=>W_nat (by omega)
  simp only [Zg,if_true,Qz,Qe,W_len (x:=x) h']
  rcases hk x (List.mem_cons_self ..) with e|e|e
  ·have w:W (x.access.kind - 1)=0:=by rw [e]; decide
   simp only [w,if_true,wn a (by omega)]
   rw [ih (a+1) b c (by simp; omega)]
   have e1:kindN 1 (x::l)=kindN 1 l+1:=List.countP_cons_of_pos (by simp [e])
   have e2:kindN 2 (x::l)=kindN 2 l:=List.countP_cons_of_neg (by simp [e])
   have e3:kindN 3 (x::l)=kindN 3 l:=List.countP_cons_of_neg (by simp [e])
   rw [e1,e2,e3,show a+1+kindN 1 l=a+(kindN 1 l+1) by omega]
  ·have w:W (x.access.kind - 1)=1:=by rw [e]; decide
   simp only [w,show ¬ (1:Int)=0 by decide,if_false,if_true,wn b (by omega)]
   rw [ih a (b+1) c (by simp; omega)]
   have e1:kindN 1 (x::l)=kindN 1 l:=List.countP_cons_of_neg (by simp [e])
   have e2:kindN 2 (x::l)=kindN 2 l+1:=List.countP_cons_of_pos (by simp [e])
   have e3:kindN 3 (x::l)=kindN 3 l:=List.countP_cons_of_neg (by simp [e])
   rw [e1,e2,e3,show b+1+kindN 2 l=b+(kindN 2 l+1) by omega]
  ·have w:W (x.access.kind - 1)=2:=by rw [e]; decide
   simp only [w,show ¬ (2:Int)=0 by decide,show ¬ (2:Int)=1 by decide,if_false,if_true,wn c (by omega)]
   rw [ih a b (c+1) (by simp; omega)]
   have e1:kindN 1 (x::l)=kindN 1 l:=List.countP_cons_of_neg (by simp [e])
   have e2:kindN 2 (x::l)=kindN 2 l:=List.countP_cons_of_neg (by simp [e])
   have e3:kindN 3 (x::l)=kindN 3 l+1:=List.countP_cons_of_pos (by simp [e])
   rw [e1,e2,e3,show c+1+kindN 3 l=c+(kindN 3 l+1) by omega]
theorem Kinds_ok {l:List Qa} (h:l.length≤50000) (hk:∀ x∈l,x.access.kind=1∨x.access.kind=2∨x.access.kind=3):JP l=some ⟨(kindN 1 l:Int),(kindN 2 l:Int),(kindN 3 l:Int)⟩:=by
 have e:=Kinds_L1 l [] 0 0 0 (by simpa using h) (by simp) hk
 simp only [Nat.zero_add,List.nil_append,List.length_nil] at e
 have e':ZG (l,0,0,0,0)=some ((kindN 1 l:Int),(kindN 2 l:Int),(kindN 3 l:Int)):=e
 simp only [JP,e',Qe]
theorem sEq_L1:∀ (s p:List Int),p.length+s.length≤600→QI (p++s,p++s,(p.length:Int))=some (.inr ())
 | [],p,h=>by
  rw [QI]
  simp only [Zc,if_false]
 | x::s,p,h=>by
  rw [QI]
  have ih:=sEq_L1 s (p++[x]) (by simp at h ⊢; omega)
  rw [← Qv] at ih
  simp only [Zg,if_true,Qz,Qe,ne_eq,not_true,if_false,J0 h,ih]
theorem sEq_ok {s:List Int} (h:s.length≤600):X6 (s,s)=some true:=by
 have e:=sEq_L1 s [] (by simpa using h)
 have e':QI (s,s,0)=some (.inr ()):=e
 simp only [X6,Ys,ne_eq,not_true,if_false,e',Qe]
def rP (c:Qb) (x:Qa):Prop:=x.access.kind=1∧winC c=true∨x.access.kind=2
def gP (bs:List (List Int)) (c:Qb):Prop:=nodesF bs c∧cellsF 300 c∧plainF c
theorem rP_up {c k:Qb} {x y:Qa} (hk:k∈c.kids) (h:rP k x) (e:y.access.kind=x.access.kind):rP c y:=by
 rcases h with ⟨h1,h2⟩|h
 ·exact .inl ⟨e.trans h1,winC_f hk h2⟩
 ·exact .inr (e.trans h)
theorem win_kind {c:Qb} (h:c.kind=2):winC c=true:=by
 cases c; simp only at h; rw [winC]; simp [h]
theorem stp_plain (bs:List (List Int)):Stp (gP bs) rP where
 whole c _ _ _:=.inr rfl
 win c k _ _ hk x _ _ hp _:=rP_up (by rw [hk]; simp) hp (shfs_kind _ _ _)
 fil c k _ h2 _ b _ _:=.inl ⟨rfl,win_kind h2⟩
 rev c k _ _ hk x _ _ hp:=rP_up (by rw [hk]; simp) hp (add_kind _ _ _)
 rot c k _ _ hk x _ _ hp y hy _:=by
  simp only [rotP,List.mem_cons,List.not_mem_nil,or_false] at hy
  rcases hy with rfl|rfl <;> exact rP_up (by rw [hk]; simp) hp (add_kind _ _ _)
 per c k _ _ hk x _ _ hp _:=rP_up (by rw [hk]; simp) hp (perA_kind _ _ _)
 rsh c k hg h6 hk l hi:=by
  obtain ⟨g1,g2,g3⟩:=hg
  have es:=(plainF_f g3).1 h6 k [] hk
  refine ⟨l,?_,?_⟩
  ·have hl:=(cellsF_f g2).1.1
   rw [← es]
   simp only [Xw,sEq_ok (show c.shape.length≤600 by omega),Qe,if_true]
  ·rw [es]
   exact hi.mono fun x _ hp=>rP_up (by rw [hk]; simp) hp rfl
 ct1 c k k2 _ _ hk x _ _ hp:=rP_up (by rw [hk]; simp) hp (add_kind _ _ _)
 ct2 c k k2 _ _ hk x _ _ hp:=rP_up (by rw [hk]; simp) hp (add_kind _ _ _)
theorem red_mR (c:Qf):Jl ⟨c.kind,c.shape,c.buffer,c.starts,c.axis,c.amount,c.perm,c.kids⟩=mR c:=by
 cases c
 unfold Jl mR
 simp only [Yr,Qe]
 cases Za _ <;> rfl
theorem DnfPlain_ok (c:Qb) (bs:List (List Int)):XL (c,bs)=some true:=by
 have ha:JJ ()=some true:=rfl
 obtain ⟨b,e1,hb⟩:=Small_ok c bs 300 (by decide)
 unfold XL
 simp only [ha,Qe,Bool.true_eq_false,if_false,e1]
 cases b with
 | false=>simp only [Bool.not_false,if_true,Qe]
 | true =>
  obtain ⟨h1,h2,h3,h4,h5⟩:=hb rfl
  obtain ⟨v,e2,hv⟩:=Plain_ok bs c h1 h2
  simp only [Bool.not_true,Bool.false_eq_true,if_false,Qe,e2]
  cases v with
  | false=>simp only [Bool.not_false,if_true,Qe]
  | true =>
   have hp:=hv rfl
   obtain ⟨l,e3,hi⟩:=red_ok (bs:=bs) (m:=300) (stp_plain bs) (by decide) (fun c h=>⟨h.1,h.2.1,fun k hk=>⟨(nodesF_f h.1).2.2 k hk,(cellsF_f h.2.1).2 k hk,(plainF_f h.2.2).2 k hk⟩⟩) (szC c) c (Nat.le_refl _) ⟨h2,h3,hp⟩
   obtain ⟨⟨q1,q2,q3,_⟩,_⟩:=cellsF_f h3
   obtain ⟨c1,c2,c3⟩:=checkR_ok q2
   have hl:=hi.len fun n hn=>(c3 n hn).1
   have hk:∀ x∈l,x.access.kind=1∨x.access.kind=2∨x.access.kind=3:=fun x hx=>by
    rcases hi.prp x hx with h|h
    ·exact .inl h.1
    ·exact .inr (.inl h)
   have e4:YN c.shape=some (prodI c.shape):=by rw [Cells_ok _ (Sm_of (show c.shape.length≤1000 by omega)),cellsR,if_pos q2]
   have k3:kindN 3 l=0:=by
    rw [kindN,List.countP_eq_zero]
    intro x hx
    rcases hi.prp x hx with h|h
    ·simp [h.1]
    ·simp [h]
   simp only [Bool.not_true,Bool.false_eq_true,if_false,Qe,Core_ok c h1,red_mR,e3,e4,show ¬ ((l.length:Int) > prodI c.shape) by omega,Kinds_ok (show l.length≤50000 by omega) hk,k3,wins_ok c h1]
   cases hw:winC c with
   | true=>rfl
   | false =>
    have k1:kindN 1 l=0:=by
     rw [kindN,List.countP_eq_zero]
     intro x hx
     rcases hi.prp x hx with h|h
     ·rw [hw] at h; exact absurd h.2 (by decide)
     ·simp [h]
    rw [k1]
    rfl
set_option maxHeartbeats 2000000
theorem ua3:prog.underlying 3=some (TypeDesc.int IntKind.i64):=by kernel_rfl
theorem ua22:prog.underlying 22=some (TypeDesc.slice 3):=by kernel_rfl
theorem ua25 : prog.underlying 25 = some (TypeDesc.struct { toList := [{ name := "Kind", type := 3, offset := 0, embedded := false, tag := "", pkgPath := "", byteOffset := 0 }, { name := "Shape", type := 22, offset := 1, embedded := false, tag := "", pkgPath := "", byteOffset := 8 }, { name := "Buffer", type := 3, offset := 2, embedded := false, tag := "", pkgPath := "", byteOffset := 32 }, { name := "Starts", type := 22, offset := 3, embedded := false, tag := "", pkgPath := "", byteOffset := 40 }, { name := "Axis", type := 3, offset := 4, embedded := false, tag := "", pkgPath := "", byteOffset := 64 }, { name := "Amount", type := 3, offset := 5, embedded := false, tag := "", pkgPath := "", byteOffset := 72 }, { name := "Perm", type := 22, offset := 6, embedded := false, tag := "", pkgPath := "", byteOffset := 80 }, { name := "Kids", type := 23, offset := 7, embedded := false, tag := "", pkgPath := "", byteOffset := 104 }] }) := by kernel_rfl
theorem ua23:prog.underlying 23=some (TypeDesc.slice 25):=by kernel_rfl
theorem ua26:prog.underlying 26=some (TypeDesc.slice 22):=by kernel_rfl
theorem ua4:prog.underlying 4=some TypeDesc.bool:=by kernel_rfl
theorem exists_map {α β:Type} {f:β→α} {p:β→Prop}:∀ {L:List α},(∀ x∈L,∃ y,x=f y∧p y)→∃ l:List β,L=l.map f∧∀ y∈l,p y
 | [],_=>⟨[],rfl,fun y h=>by cases h⟩
 | x::L,h=>by
  obtain ⟨y,rfl,hy⟩:=h x (List.mem_cons_self ..)
  obtain ⟨l,rfl,hl⟩:=exists_map (fun x hx=>h x (List.mem_cons_of_mem _ hx))
  exact ⟨y::l,rfl,fun z hz=>by
   rcases List.mem_cons.1 hz with rfl|hz
   ·exact hy
   ·exact hl z hz⟩
variable {B:Nat} {n:Nat} {cs:List Dat}
theorem tc3 (h:TyC prog B n 3 cs):∃ m:Int,cs=[(Qg m)]∧((-9223372036854775808)≤m∧m≤9223372036854775807):=by
 cases n with
 | zero=>exact h.elim
 | succ n =>
  simp only [TyC,ua3] at h
  obtain ⟨m,rfl,hm⟩:=h
  refine ⟨m,rfl,?_⟩
  simpa [Lit.wf,IntKind.min,IntKind.max,IntKind.signed,IntKind.bits] using hm
def ok22 (B:Nat) (x:(List Int)):Prop:=x.length≤B∧∀ m∈x,((-9223372036854775808)≤m∧m≤9223372036854775807)
theorem tc22 (h:TyC prog B n 22 cs):∃ l:(List Int),cs=[.lst ((List.map Qg) l)]∧ok22 B l:=by
 cases n with
 | zero=>exact h.elim
 | succ n =>
  simp only [TyC,ua22] at h
  obtain ⟨L,rfl,hl,hx⟩:=h
  obtain ⟨l,rfl,hm⟩:=exists_map (f:=fun m=>[(Qg m)]) (p:=fun m=>((-9223372036854775808)≤m∧m≤9223372036854775807)) (fun x hx'=>tc3 (hx x hx'))
  refine ⟨l,?_,by simpa using hl,hm⟩
  have e:(l.map (fun m=>[(Qg m)])).map (elemD prog 3)=l.map Qg:=by
   rw [List.map_map]; exact List.map_congr_left (fun m _=>by simp only [Function.comp_apply]; simp [elemD,aggB,ua3])
  rw [e]
mutual
def ok25 (B:Nat):Qb→Prop
 | ⟨kind,shape,buffer,starts,axis,amount,perm,kids⟩=>(((-9223372036854775808)≤kind∧kind≤9223372036854775807))∧((ok22 B shape))∧(((-9223372036854775808)≤buffer∧buffer≤9223372036854775807))∧((ok22 B starts))∧(((-9223372036854775808)≤axis∧axis≤9223372036854775807))∧(((-9223372036854775808)≤amount∧amount≤9223372036854775807))∧((ok22 B perm))∧(kids.length≤B∧okl25 B kids)
def okl25 (B:Nat):List Qb→Prop
 | []=>True
 | k::ks=>ok25 B k∧okl25 B ks
end
theorem okl25_of:∀ {l:List Qb},(∀ y∈l,ok25 B y)→okl25 B l
 | [],_=>by rw [okl25]; trivial
 | y::l,h=>by rw [okl25]; exact ⟨h y (List.mem_cons_self ..),okl25_of fun z hz=>h z (List.mem_cons_of_mem _ hz)⟩
theorem ts25 (ih:∀ cs,TyC prog B n 23 cs→∃ l:List Qb,cs=[.lst (Qb.toDs l)]∧l.length≤B∧okl25 B l) (h:TyC prog B (n+1) 25 cs):∃ x:Qb,cs=[(Qg x.kind),(.lst ((List.map Qg) x.shape)),(Qg x.buffer),(.lst ((List.map Qg) x.starts)),(Qg x.axis),(Qg x.amount),(.lst ((List.map Qg) x.perm)),(.lst (Qb.toDs x.kids))]∧ok25 B x:=by
 simp only [TyC,ua25,List.foldr] at h
 obtain ⟨_,_,rfl,h0,_,_,rfl,h1,_,_,rfl,h2,_,_,rfl,h3,_,_,rfl,h4,_,_,rfl,h5,_,_,rfl,h6,_,_,rfl,h7,rfl⟩:=h
 obtain ⟨m0,rfl,i0⟩:=tc3 h0
 obtain ⟨m1,rfl,i1⟩:=tc22 h1
 obtain ⟨m2,rfl,i2⟩:=tc3 h2
 obtain ⟨m3,rfl,i3⟩:=tc22 h3
 obtain ⟨m4,rfl,i4⟩:=tc3 h4
 obtain ⟨m5,rfl,i5⟩:=tc3 h5
 obtain ⟨m6,rfl,i6⟩:=tc22 h6
 obtain ⟨m7,rfl,i7⟩:=ih _ h7
 exact ⟨⟨m0,m1,m2,m3,m4,m5,m6,m7⟩,rfl,by rw [ok25]; exact ⟨i0,i1,i2,i3,i4,i5,i6,i7⟩⟩
theorem tl25 (ih:∀ cs,TyC prog B n 25 cs→∃ x:Qb,cs=[(Qg x.kind),(.lst ((List.map Qg) x.shape)),(Qg x.buffer),(.lst ((List.map Qg) x.starts)),(Qg x.axis),(Qg x.amount),(.lst ((List.map Qg) x.perm)),(.lst (Qb.toDs x.kids))]∧ok25 B x) (h:TyC prog B (n+1) 23 cs):∃ l:List Qb,cs=[.lst (Qb.toDs l)]∧l.length≤B∧okl25 B l:=by
 simp only [TyC,ua23] at h
 obtain ⟨L,rfl,hl,hx⟩:=h
 obtain ⟨l,rfl,hm⟩:=exists_map (f:=fun (x:Qb)=>[(Qg x.kind),(.lst ((List.map Qg) x.shape)),(Qg x.buffer),(.lst ((List.map Qg) x.starts)),(Qg x.axis),(Qg x.amount),(.lst ((List.map Qg) x.perm)),(.lst (Qb.toDs x.kids))]) (p:=fun x=>ok25 B x) (fun c hc=>ih c (hx c hc))
 refine ⟨l,?_,by simpa using hl,okl25_of hm⟩
 have e:(l.map (fun (x:Qb)=>[(Qg x.kind),(.lst ((List.map Qg) x.shape)),(Qg x.buffer),(.lst ((List.map Qg) x.starts)),(Qg x.axis),(Qg x.amount),(.lst ((List.map Qg) x.perm)),(.lst (Qb.toDs x.kids))])).map (elemD prog 25)=Qb.toDs l:=by
  rw [Qb.toDs_eq,List.map_map]; exact List.map_congr_left (fun m _=>by rw [Qb.toD_eq]; simp only [Function.comp_apply]; simp [elemD,aggB,ua25]; rfl)
 rw [e]
theorem tr25:∀ n,(∀ cs,TyC prog B n 25 cs→∃ x:Qb,cs=[(Qg x.kind),(.lst ((List.map Qg) x.shape)),(Qg x.buffer),(.lst ((List.map Qg) x.starts)),(Qg x.axis),(Qg x.amount),(.lst ((List.map Qg) x.perm)),(.lst (Qb.toDs x.kids))]∧ok25 B x)∧(∀ cs,TyC prog B n 23 cs→∃ l:List Qb,cs=[.lst (Qb.toDs l)]∧l.length≤B∧okl25 B l)
 | 0=>⟨fun _ h=>h.elim,fun _ h=>h.elim⟩
 | n+1=>⟨fun _ h=>ts25 (tr25 n).2 h,fun _ h=>tl25 (tr25 n).1 h⟩
theorem tc25 (h:TyC prog B n 25 cs):∃ x:Qb,cs=[(Qg x.kind),(.lst ((List.map Qg) x.shape)),(Qg x.buffer),(.lst ((List.map Qg) x.starts)),(Qg x.axis),(Qg x.amount),(.lst ((List.map Qg) x.perm)),(.lst (Qb.toDs x.kids))]∧ok25 B x:=(tr25 n).1 cs h
def ok26 (B:Nat) (x:(List (List Int))):Prop:=x.length≤B∧∀ m∈x,(ok22 B m)
theorem tc26 (h:TyC prog B n 26 cs):∃ l:(List (List Int)),cs=[.lst ((List.map (fun l=>Dat.lst ((List.map Qg) l))) l)]∧ok26 B l:=by
 cases n with
 | zero=>exact h.elim
 | succ n =>
  simp only [TyC,ua26] at h
  obtain ⟨L,rfl,hl,hx⟩:=h
  obtain ⟨l,rfl,hm⟩:=exists_map (f:=fun m=>[(.lst ((List.map Qg) m))]) (p:=fun m=>(ok22 B m)) (fun x hx'=>tc22 (hx x hx'))
  refine ⟨l,?_,by simpa using hl,hm⟩
  have e:(l.map (fun m=>[(.lst ((List.map Qg) m))])).map (elemD prog 22)=l.map (fun l=>Dat.lst ((List.map Qg) l)):=by
   rw [List.map_map]; exact List.map_congr_left (fun m _=>by simp only [Function.comp_apply]; simp [elemD,aggB,ua22])
  rw [e]
theorem ty25 {d:Dat} (h:TyA prog B 25 d):∃ m:Qb,d=(Qb.ex m)∧(ok25 B m):=by
 obtain ⟨n,cs,h,hd⟩:=h
 obtain ⟨m,rfl,hm⟩:=tc25 h
 exact ⟨m,by rw [hd]; simp [elemD,aggB,ua25]; rfl,hm⟩
theorem ty26 {d:Dat} (h:TyA prog B 26 d):∃ m:(List (List Int)),d=(.lst ((List.map (fun l=>Dat.lst ((List.map Qg) l))) m))∧(ok26 B m):=by
 obtain ⟨n,cs,h,hd⟩:=h
 obtain ⟨m,rfl,hm⟩:=tc26 h
 exact ⟨m,by rw [hd]; simp [elemD,aggB,ua26],hm⟩
def argTs:List TypeId:=[3,22,25,23,26,4]
theorem argTs_closed:closedTs prog argTs=true:=by kernel_rfl
theorem laidOut:laidOutB prog=true:=by kernel_rfl
theorem summ:SummOK prog env:=⟨(fun f G h ds p hg=>by
  unfold env at h; dsimp only at h
  split at h
  ·cases h; cases hg
  split at h
  ·cases h; cases hg
  cases h),
 (fun f G h=>by
  unfold env at h; dsimp only at h
  split at h
  ·rename_i e; subst e; cases h; exact ⟨by kernel_rfl,sort_call⟩
  split at h
  ·rename_i e; subst e; cases h; exact ⟨by kernel_rfl,sorted_call⟩
  cases h)⟩
theorem mixed:prog.follows .mixedOrders=true:=by kernel_rfl
theorem pure_of {f:FuncId} {dss:List Dat} {p:PV} (ho:p.out=true) (h:PC prog env f (dss.map .dat) [] p []):PureCall prog f dss p:=by
 obtain ⟨N,hN⟩:=h
 exact pure_sound summ mixed (hN N (Nat.le_refl _)) ho
end Go.Proofs.Tryz
