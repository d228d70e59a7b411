/-
 Models of functions, their walks, and plain laws.
-/
import Derived.Test.YtjcfpjpdopfefaaGreatPmLaw
import Derived.Test.YtjcfpjpdopfefaaGreatKDnfCountsC
namespace Go.Proofs.Tryz
open Go Go.Pm
set_option linter.unusedVariables false
set_option linter.unusedSimpArgs false
set_option maxRecDepth 2000
def bkA (a:Qn):Qm:=⟨a.kind,a.buffer,a.base,a.strides,a.start,a.step,a.mod⟩
def bkP (x:Qc):Qb:=⟨⟨x.box.lo,x.box.hi⟩,bkA x.access⟩
theorem strictT_pair:∀ {l:List Qc},strictT l=true→l.Pairwise fun a b=>cmpL a.box.lo b.box.lo < 0
 | [],_=>.nil
 | [a],_=>by simp
 | a::b::l,h=>by
  simp only [strictT,jE,zA] at h;have ih:=strictT_pair h.2;refine List.pairwise_cons.2 ⟨fun c hc=>?_,ih⟩;rcases List.mem_cons.1 hc with rfl|hc
  ·exact h.1
  ·exact cmpL_trans h.1 ((List.pairwise_cons.1 ih).1 c hc)
def putT (l:List Qc) (x:Qc):List Qc:=if fullP x=true then insT x l else l
theorem put_fold_perm:∀ (L out:List Qc),(L.foldl putT out).Perm (L.filter fullP++out)
 | [],out=>.refl _
 | x::L,out=>by
  rw [List.foldl_cons];refine (put_fold_perm L _).trans ?_;unfold putT;by_cases h:fullP x=true
  ·rw [if_pos h,List.filter_cons_of_pos h];refine ((insT_perm x out).append_left _).trans ?_;rw [List.cons_append];exact List.perm_middle
  ·rw [if_neg h,List.filter_cons_of_neg h]
theorem put_fold_strict:∀ (L out:List Qc),strictT out=true→((L.filter fullP++out).Pairwise fun a b=>a.box.lo≠b.box.lo)→strictT (L.foldl putT out)=true
 | [],out,h,_=>h
 | x::L,out,h,hd=>by
  rw [List.foldl_cons];unfold putT;by_cases hf:fullP x=true
  ·rw [if_pos hf];rw [List.filter_cons_of_pos hf,List.cons_append] at hd;obtain ⟨d1,d2⟩:=List.pairwise_cons.1 hd;refine put_fold_strict L _ (ins_strict x out h fun y hy=>(d1 y (List.mem_append_right _ hy)).symm) ?_
   have:(x::(L.filter fullP++out)).Perm (L.filter fullP++insT x out):=by
    refine List.perm_middle.symm.trans ?_;exact (insT_perm x out).symm.append_left _
   exact (this.pairwise_iff (fun h=>h.symm)).1 (List.pairwise_cons.2 ⟨d1,d2⟩)
  ·rw [if_neg hf];rw [List.filter_cons_of_neg hf] at hd;exact put_fold_strict L out h hd
theorem put_fold {L:List Qc} (hd:(L.filter fullP).Pairwise fun a b=>a.box.lo≠b.box.lo):L.foldl putT []=sortT (L.filter fullP):=by
 have h1:=put_fold_perm L [];rw [jU] at h1;have h2:=put_fold_strict L [] rfl (by rw [jU]; exact hd);refine sorted_only (fun a b=>cmpL a.box.lo b.box.lo < 0) (fun a=>by simp [cmpL_self]) (h1.trans (sortT_perm _).symm) (strictT_pair h2) ?_
 exact (strictT_pair (sort_strict hd)).imp fun h h'=>by
  have:=cmpL_trans h h';rw [cmpL_self] at this;exact absurd this y9
theorem Pre.dist {P:Qc→Prop} {s:List Int} {L:List Qc} (h:Pre P s L):(L.filter fullP).Pairwise fun a b=>a.box.lo≠b.box.lo:=by
 refine dist_of (s:=s) (fun x hx=>?_) fun i hi=>?_
 ·obtain ⟨k1,k2⟩:=List.mem_filter.1 hx;exact (h.box x k1).2.2 k2
 ·rw [count_full,h.cnt i hi]; exact j7 _
theorem QbC:∀ (lo hi pl ph:List Int),pl.length=ph.length→lo.length=hi.length→pl.length+lo.length≤600→ZL (⟨pl++lo,ph++hi⟩,(pl.length:Int))=some (if fullB lo hi=true then .inr () else .inl ())
 | [],[],pl,ph,h1,h2,h=>by
  rw [ZL];simp only [Q4,if_false]; rfl
 | l::lo,h::hi,pl,ph,h1,h2,hl=>by
  rw [ZL];have i2:idx (ph++h::hi) (pl.length:Int)=some h:=by rw [h1]; exact Qy
  have e:=QbC lo hi (pl++[l]) (ph++[h]) (by simp [h1]) (by simpa using h2) (by simp at hl ⊢; omega);rw [← Qr,← Qr] at e;simp only [QU,if_true,i2,Qy,Qe,YF hl,e,fullB];by_cases g:l < h
  ·rw [if_neg (show ¬ l≥h by omega)]; simp only [g,decide_true,Bool.true_and]
  ·rw [if_pos (show l≥h by omega)]; simp only [g,zY,Bool.false_and]; rfl
 | [],_::_,_,_,_,h,_=>by cases h
 | _::_,[],_,_,_,h,_=>by cases h
theorem empty_ok {lo hi:List Int} (h:lo.length=hi.length) (hl:lo.length≤600):YK ⟨lo,hi⟩=some (!fullB lo hi):=by
 have e:=QbC lo hi [] [] rfl h (by simpa using hl);simp only [jQ,jL,jJ] at e;simp only [YK,e,Qe];cases fullB lo hi <;> rfl
theorem lessR_L1:∀ (a b p q:List Int),a.length=b.length→p.length=q.length→p.length+a.length≤600→ZQ (p++a,q++b,(p.length:Int))=some (if a=b then .inr () else .inl (decide (cmpL a b < 0)))
 | [],[],p,q,_,_,_=>by
  rw [ZQ];simp only [Q4,if_false,Qe,j6]; rfl
 | x::a,y::b,p,q,e1,e2,hl=>by
  rw [ZQ];have l2:((p.length:Int) < ((q++y::b).length:Int)):=by rw [e2]; exact QU
  have i2:idx (q++y::b) (p.length:Int)=some y:=by rw [e2]; exact Qy
  simp only [QU,if_true,l2,decide_true,Qe,Qy,i2];by_cases g:x=y
  ·have ih:=lessR_L1 a b (p++[x]) (q++[y]) (by simpa using e1) (by simp [e2]) (by simp at hl ⊢; omega);rw [← Qr,← Qr] at ih;subst g;simp only [ne_eq,not_true,if_false];rw [YF hl];refine ih.trans ?_;simp [cmpL]
  ·have:¬ (x::a=y::b):=fun e=>g (List.cons.inj e).1
   rw [if_neg this,if_pos g];simp only [cmpL];by_cases c:x < y
   ·simp [c]
   ·have:y < x:=by omega
    simp [c,this]
 | [],_::_,_,_,h,_,_=>by simp at h
 | _::_,[],_,_,h,_,_=>by simp at h
theorem lessR_ok {a b:List Int} (h1:a.length=b.length) (hl:a.length≤600):XD (a,b)=some (decide (cmpL a b < 0)):=by
 have e:=lessR_L1 a b [] [] h1 rfl y6;simp only [jQ,jL,jJ] at e;simp only [XD,e,Qe];by_cases g:a=b
 ·subst g;simp [cmpL_self]
 ·simp only [g,if_false]
def befT (x z:Qc):Bool:=decide (cmpL z.box.lo x.box.lo < 0)
theorem insT_eq (x:Qc):∀ l:List Qc,insT x l=l.takeWhile (befT x)++x::l.dropWhile (befT x)
 | []=>rfl
 | y::l=>by
  rw [insT];by_cases h:cmpL y.box.lo x.box.lo < 0
  ·rw [if_pos h,insT_eq x l,List.takeWhile_cons_of_pos (by simpa [befT] using h),List.dropWhile_cons_of_pos (by simpa [befT] using h)]; rfl
  ·rw [if_neg h,List.takeWhile_cons_of_neg (by simpa [befT] using h),List.dropWhile_cons_of_neg (by simpa [befT] using h)]; rfl
theorem put_L1 {n:Nat} (x:Qc) (hx:x.box.lo.length=n) (hn:n≤600):∀ (l p:List Qc),(∀ z∈l,z.box.lo.length=n)→p.length+l.length≤90000→Z2 ((p++l).map bkP,bkP x,(p.length:Int))=some (((p.length+(l.takeWhile (befT x)).length:Nat):Int))
 | [],p,hz,h=>by
  rw [Z2]
  have:¬ ((p.length:Int) < (((p++[]).map bkP).length:Int)):=by simp
  simp only [this,if_false,Qe,j6]; rfl
 | z::l,p,hz,h=>by
  rw [Z2];have h1:((p.length:Int) < (((p++z::l).map bkP).length:Int)):=by simp; omega
  have h2:idx ((p++z::l).map bkP) (p.length:Int)=some (bkP z):=idx_of y7;have ez:=hz z (jM ..);have e:=lessR_ok (a:=(bkP z).box.lo) (b:=(bkP x).box.lo) (by show z.box.lo.length=x.box.lo.length; omega) (by show z.box.lo.length≤600; omega);have ih:=put_L1 x hx hn l (p++[z]) (fun y hy=>hz y (jG _ hy)) (by simp at h ⊢; omega);rw [← Qr] at ih;have hW:W ((p.length:Int)+1)=((p++[z]).length:Int):=W_len (by simp at h; omega);simp only [h1,if_true,h2,Qe,e];by_cases g:cmpL z.box.lo x.box.lo < 0
  ·have g':cmpL (bkP z).box.lo (bkP x).box.lo < 0:=g;rw [decide_eq_true g',if_pos rfl,hW,ih,List.takeWhile_cons_of_pos (by simpa [befT] using g)];simp; omega
  ·have g':¬ cmpL (bkP z).box.lo (bkP x).box.lo < 0:=g;rw [zX g',if_neg y9,List.takeWhile_cons_of_neg (by simpa [befT] using g)];simp
theorem take_while_len {α:Type} (q:α→Bool) (l:List α):l.take (l.takeWhile q).length=l.takeWhile q∧l.drop (l.takeWhile q).length=l.dropWhile q:=by
 induction l with
 | nil=>exact ⟨rfl,rfl⟩
 | cons a l ih =>
  by_cases h:q a=true
  ·rw [List.takeWhile_cons_of_pos h,List.dropWhile_cons_of_pos h];simp [ih.1,ih.2]
  ·rw [List.takeWhile_cons_of_neg h,List.dropWhile_cons_of_neg h];simp
theorem put_ok {n:Nat} {l:List Qc} {x:Qc} {y:Qb} (hn:n≤600) (hl:l.length≤80000) (hz:∀ z∈l,z.box.lo.length=n) (hy:y.box.lo.length=n∧y.box.hi.length=n)
  (hf:fullB y.box.lo y.box.hi=fullP x) (he:fullP x=true→y=bkP x):QJ (l.map bkP,y)=some ((putT l x).map bkP):=by
 unfold QJ putT;have e0:=empty_ok (lo:=y.box.lo) (hi:=y.box.hi) y5 y5;have e0':YK y.box=some (!fullB y.box.lo y.box.hi):=e0;simp only [e0',Qe,hf];by_cases g:fullP x=true
 ·have ey:=he g;subst ey;have e1:=put_L1 x hy.1 hn l [] hz y6;simp only [jQ,jL,jJ,zW] at e1;have htl:(l.takeWhile (befT x)).length≤l.length:=(List.takeWhile_sublist _).length_le;have hdl:(l.dropWhile (befT x)).length≤l.length:=(List.dropWhile_sublist _).length_le;obtain ⟨t1,t2⟩:=take_while_len (befT x) l
  have s1:sub (l.map bkP) 0 ((l.takeWhile (befT x)).length:Int)=some ((l.takeWhile (befT x)).map bkP):=by
   rw [sub,if_pos ⟨by omega,by omega,by simp; omega⟩];simp only [Int.toNat_natCast,Int.toNat_zero,List.drop_zero,← List.map_take,t1]
  have s2:sub (l.map bkP) ((l.takeWhile (befT x)).length:Int) ((l.map bkP).length:Int)=some ((l.dropWhile (befT x)).map bkP):=by
   rw [sub,if_pos ⟨by omega,by simp; omega,by omega⟩];simp only [Int.toNat_natCast,List.take_length,← List.map_drop,t2]
  have s3:(⟨⟨(bkP x).box.lo,(bkP x).box.hi⟩,⟨(bkP x).access.kind,(bkP x).access.buffer,(bkP x).access.base,(bkP x).access.strides,(bkP x).access.start,(bkP x).access.step,(bkP x).access.mod⟩⟩:Qb)=bkP x:=rfl;rw [g];simp only [Bool.not_true,j6,if_false,e1,Qe,s1,s2,if_true,s3];rw [app_le y6 y5,Qe,app_le y6 y5,Qe,app_le y6 y5,Qe,insT_eq];simp
 ·have g':=(Bool.not_eq_true _).mp g;rw [g'];simp
theorem put_len (l:List Qc) (x:Qc):(putT l x).length≤l.length+1:=by
 unfold putT;split
 ·rw [(insT_perm x l).length_eq]; simp
 ·omega
theorem put_lo {n:Nat} {l:List Qc} {x:Qc} (hz:∀ z∈l,z.box.lo.length=n) (hx:x.box.lo.length=n):∀ z∈putT l x,z.box.lo.length=n:=fun z h=>by
 unfold putT at h;split at h
 ·rcases List.mem_cons.1 ((insT_perm x l).mem_iff.1 h) with rfl|h
  ·exact hx
  ·exact hz z h
 ·exact hz z h
theorem radd_ok {r:Nat} {a:Qn} {n:Int} {st:List Int} (h:wfA r a) (h1:a.kind≠1):Yy (bkA a,n,st)=some (bkA (addA a n st)):=by
 obtain ⟨kd,bu,ba,s,sa,sp,md⟩:=a;rcases h with h|⟨h|h,h2⟩ <;> simp only at h h1 <;> subst h
 ·exact absurd rfl h1
 ·simp only [Yy,bkA,if_true,Qe,show ¬ (2:Int)=3 by decide,if_false,addA,show ¬ (2:Int)=1 by decide]
 ·simp only [Yy,bkA,if_true,Qe,show ¬ (3:Int)=2 by decide,if_false,addA,show ¬ (3:Int)=1 by decide]
theorem rshf_ok {r:Nat} {a:Qn} {k:Nat} (n:Int) (h:wfA r a) (hk:k < r):Zu (bkA a,(k:Int),n)=some (bkA (shfA a k n)):=by
 by_cases h1:a.kind=1
 ·have e:(bkA a).kind=1:=h1;simp only [Zu,e,if_true,shfA,addA,h1]
 ·have e:¬ (bkA a).kind=1:=h1;have hs:a.strides.length=r:=by rcases h with h|h; exact absurd h h1; exact h.2
  have hi:idx (bkA a).strides (k:Int)=some (a.strides.getD k 0):=by
   show idx a.strides (k:Int)=_
   rw [getD_el y5]; exact idx_ok y5
  have:=radd_ok (n:=W (n * a.strides.getD k 0)) (st:=a.strides) h h1;simp only [Zu,e,if_false,hi,Qe];rw [show (bkA a).strides=a.strides from rfl,this]; rfl
theorem rflp_ok {r:Nat} {a:Qn} {k:Nat} (n:Int) (h:wfA r a) (hk:k < r) (hr:r≤600):YC (bkA a,(k:Int),n)=some (bkA (flpA a k n)):=by
 by_cases h1:a.kind=1
 ·have e:(bkA a).kind=1:=h1;simp only [YC,e,if_true,flpA,addA,h1]
 ·have e:¬ (bkA a).kind=1:=h1;have hs:a.strides.length=r:=by rcases h with h|h; exact absurd h h1; exact h.2
  have hi:idx a.strides (k:Int)=some (a.strides.getD k 0):=by rw [getD_el y5]; exact idx_ok y5
  have hst:setM a.strides (k:Int) (W (0 - a.strides.getD k 0))=some (a.strides.set k (W (0 - a.strides.getD k 0))):=setM_ok y5;have:=radd_ok (n:=W (W (n - 1) * a.strides.getD k 0)) (st:=a.strides.set k (W (0 - a.strides.getD k 0))) h h1;have hc:app 8 ([]:List Int) a.strides=some a.strides:=clone_le y5;simp only [YC,e,if_false];rw [show (bkA a).strides=a.strides from rfl,hc];simp only [Qe,hi,hst];rw [guardM_ok y7,Qe,this]; rfl
theorem chg_ok {lo hi:List Int} {k:Nat} {a b:Int} (hk:k < lo.length) (hk2:k < hi.length) (hl:lo.length≤600) (hh:hi.length≤600):Zb (⟨lo,hi⟩,(k:Int),a,b)=some ⟨lo.set k a,hi.set k b⟩:=by
 have c1:app 8 ([]:List Int) lo=some lo:=clone_le hl;have c2:app 8 ([]:List Int) hi=some hi:=clone_le hh;simp only [Zb,c1,c2,Qe,idx_ok hk,idx_ok hk2,setM_ok hk,setM_ok hk2,guardM_ok (zR)]
theorem fullB_set:∀ (l h:List Int) (k:Nat) (a b:Int),k < l.length→k < h.length→fullB (l.set k a) (h.set k b)=(decide (a < b) && fullB (l.eraseIdx k) (h.eraseIdx k))
 | c::l,d::h,0,a,b,_,_=>by simp [fullB]
 | c::l,d::h,k+1,a,b,h1,h2=>by
  have ih:=fullB_set l h k a b (by simpa using h1) (by simpa using h2);simp only [List.set_cons_succ,fullB,ih,List.eraseIdx_cons_succ];cases decide (c < d) <;> cases decide (a < b) <;> simp
 | [],_,k,_,_,h,_=>by simp at h
 | _::_,[],k,_,_,_,h=>by simp at h
section
variable {P:Qc→Prop} {s:List Int} {k:Nat} {n:Int}
theorem rRev_L1 (hk:s[k]? = some n) (hn:n≤65536) (hs:s.length≤600):∀ (l p out:List Qc),p.length+l.length≤50000→out.length≤p.length→(∀ z∈out,z.box.lo.length=s.length)→(∀ x∈l,wkB s x.box.lo x.box.hi∧wfA s.length x.access) →
  Q9 ((p++l).map bkP,(k:Int),n,out.map bkP,(p.length:Int))=some (((l.map (revP k n)).foldl putT out).map bkP)
 | [],p,out,h,ho,hz,hw=>by
  rw [Q9]
  have:¬ ((p.length:Int) < (((p++[]).map bkP).length:Int)):=by simp
  simp only [this,if_false]; rfl
 | x::l,p,out,h,ho,hz,hw=>by
  rw [Q9];obtain ⟨hb,ha⟩:=hw x (jM ..);obtain ⟨l1,l2⟩:=wk_len hb;obtain ⟨a,b,e1,e2,k0,k1,k2⟩:=wk_at hb hk;have h1:((p.length:Int) < (((p++x::l).map bkP).length:Int)):=by simp; omega
  have h2:idx ((p++x::l).map bkP) (p.length:Int)=some (bkP x):=idx_of y7;have hxl:(revP k n x).box.lo.length=s.length:=by simp [revP,l1]
  have ih:=rRev_L1 hk hn hs l (p++[x]) (putT out (revP k n x)) (by simp at h ⊢; omega) (by have:=put_len out (revP k n x); simp; omega) (put_lo hz hxl) (fun y hy=>hw y (jG _ hy));rw [← Qr] at ih;have hW:W ((p.length:Int)+1)=((p++[x]).length:Int):=W_len (by simp at h; omega);have w1:W (n - b)=n - b:=W_in y5 y5;have w2:W (n - a)=n - a:=W_in y5 y5;have i1:idx (bkP x).box.lo (k:Int)=some a:=idx_at e1;have i2:idx (bkP x).box.hi (k:Int)=some b:=idx_at e2;have ec:Zb ((bkP x).box,(k:Int),n - b,n - a)=some ⟨x.box.lo.set k (n - b),x.box.hi.set k (n - a)⟩:=chg_ok (lt_at e1) (lt_at e2) y5 y5;have ef:YC ((bkP x).access,(k:Int),n)=some (bkA (flpA x.access k n)):=rflp_ok n ha (lt_at hk) hs
  have ep:QJ (out.map bkP,⟨⟨x.box.lo.set k (n - b),x.box.hi.set k (n - a)⟩,bkA (flpA x.access k n)⟩)=some ((putT out (revP k n x)).map bkP):=by
   have hr:revP k n x=⟨⟨x.box.lo.set k (n - b),x.box.hi.set k (n - a)⟩,flpA x.access k n⟩:=by simp only [revP,getD_at e1,getD_at e2]
   rw [hr];exact put_ok (n:=s.length) hs (by simp at h; omega) hz ⟨by simp [l1],by simp [l2]⟩ rfl fun _=>rfl
  simp only [h1,if_true,h2,Qe,i1,i2,w1,w2,ec,ef,ep,hW,ih,zS,List.foldl_cons]
theorem rRev_ok {l:List Qc} {Q:Qc→Prop} (h:Inv P s l) (hc:checkR s=0) (hP:prodI s≤20000) (hk:s[k]? = some n) (hp:Pre Q s (l.map (revP k n))):YG (l.map bkP,(k:Int),n)=some ((sortT ((l.map (revP k n)).filter fullP)).map bkP):=by
 obtain ⟨h1,h2,h3⟩:=checkR_ok hc;have hll:=h.len4 hc hP;have e:=rRev_L1 hk (h3 n (jF hk)).2 y5 l [] [] (by simpa using by omega) y7 (fun z hz=>by simp at hz) (fun x hx=>⟨h.wk x hx,h.acc x hx⟩);have e':Q9 (l.map bkP,(k:Int),n,[],0)=some (((l.map (revP k n)).foldl putT []).map bkP):=e;simp only [YG,e',Qe,put_fold hp.dist]
theorem rmov_put {out:List Qc} {x:Qc} {f t d a b a' b':Int} (hs:s.length≤600) (hl:out.length≤80000) (hz:∀ z∈out,z.box.lo.length=s.length) (hb:wkB s x.box.lo x.box.hi) (hk:s[k]? = some n) (e1:x.box.lo[k]? = some a) (e2:x.box.hi[k]? = some b)
  (h1:a' < b'↔cutL a f t+d < cutH a b f t+d) (h2:a' < b'→a'=cutL a f t+d∧b'=cutH a b f t+d):QJ (out.map bkP,⟨⟨x.box.lo.set k a',x.box.hi.set k b'⟩,bkA (shfA x.access k (W (0 - d)))⟩)=some ((putT out (movP k f t d x)).map bkP):=by
 obtain ⟨l1,l2⟩:=wk_len hb;have k1:=lt_at e1;have k2:=lt_at e2;have hr:movP k f t d x=⟨⟨x.box.lo.set k (cutL a f t+d),x.box.hi.set k (cutH a b f t+d)⟩,shfA x.access k (W (0 - d))⟩:=by simp only [movP,getD_at e1,getD_at e2]
 rw [hr];refine put_ok (n:=s.length) hs hl hz ⟨by simp [l1],by simp [l2]⟩ ?_ fun hf=>?_
 ·show fullB (x.box.lo.set k a') (x.box.hi.set k b')=fullB (x.box.lo.set k (cutL a f t+d)) (x.box.hi.set k (cutH a b f t+d))
  rw [fullB_set _ _ _ _ _ k1 k2,fullB_set _ _ _ _ _ k1 k2,decide_eq_decide.2 h1]
 ·have hf':fullB (x.box.lo.set k (cutL a f t+d)) (x.box.hi.set k (cutH a b f t+d))=true:=hf;rw [fullB_set _ _ _ _ _ k1 k2,jE,zA,← h1] at hf';obtain ⟨q1,q2⟩:=h2 hf'.1;rw [q1,q2]; rfl
theorem rRot_L1 {m:Int} (hk:s[k]? = some n) (hn:n≤65536) (hs:s.length≤600) (h0:0≤m) (hm:m≤n):∀ (l p out:List Qc),p.length+l.length≤30000→out.length≤2 * p.length→(∀ z∈out,z.box.lo.length=s.length)→(∀ x∈l,wkB s x.box.lo x.box.hi∧wfA s.length x.access) →
  Zm ((p++l).map bkP,(k:Int),m,n,out.map bkP,(p.length:Int))=some (((l.flatMap (rotP k m n)).foldl putT out).map bkP)
 | [],p,out,h,ho,hz,hw=>by
  rw [Zm]
  have:¬ ((p.length:Int) < (((p++[]).map bkP).length:Int)):=by simp
  simp only [this,if_false]; rfl
 | x::l,p,out,h,ho,hz,hw=>by
  rw [Zm];obtain ⟨hb,ha⟩:=hw x (jM ..);obtain ⟨l1,l2⟩:=wk_len hb;obtain ⟨a,b,e1,e2,k0,k1,k2⟩:=wk_at hb hk;have h1:((p.length:Int) < (((p++x::l).map bkP).length:Int)):=by simp; omega
  have h2:idx ((p++x::l).map bkP) (p.length:Int)=some (bkP x):=idx_of y7;have hx1:(movP k m n (0 - m) x).box.lo.length=s.length:=by simp [movP,l1]
  have hx2:(movP k 0 m (n - m) x).box.lo.length=s.length:=by simp [movP,l1]
  have pl1:=put_len out (movP k m n (0 - m) x);have pl2:=put_len (putT out (movP k m n (0 - m) x)) (movP k 0 m (n - m) x);have hz1:=put_lo hz hx1;have ih:=rRot_L1 hk hn hs h0 hm l (p++[x]) (putT (putT out (movP k m n (0 - m) x)) (movP k 0 m (n - m) x)) (by simp at h ⊢; omega) (by simp only [jV,zE,jL]; omega) (put_lo hz1 hx2) (fun y hy=>hw y (jG _ hy));rw [← Qr] at ih;have hpl:p.length≤30000:=by simp at h; omega
  have hW:W ((p.length:Int)+1)=((p++[x]).length:Int):=W_len y5;have i1:idx (bkP x).box.lo (k:Int)=some a:=idx_at e1;have i2:idx (bkP x).box.hi (k:Int)=some b:=idx_at e2;have w1:W ((if a < m then m else a) - m)=(if a < m then m else a) - m:=by split <;> exact W_in y5 y5
  have w2:W (b - m)=b - m:=W_in y5 y5;have w3:W (a+n)=a+n:=W_in y5 y5;have w4:W (a+n - m)=a+n - m:=W_in y5 y5;have w5:W ((if m < b then m else b)+n)=(if m < b then m else b)+n:=by split <;> exact W_in y5 y5
  have w6:W ((if m < b then m else b)+n - m)=(if m < b then m else b)+n - m:=by split <;> exact W_in y5 y5
  have w7:W (m - n)=m - n:=W_in y5 y5;have w8:W (0 - (0 - m))=m:=by rw [W_in y5 y5]; omega
  have w9:W (0 - (n - m))=m - n:=by rw [W_in y5 y5]; omega
  have ec:∀ u v,Zb ((bkP x).box,(k:Int),u,v)=some ⟨x.box.lo.set k u,x.box.hi.set k v⟩:=fun u v=>chg_ok (lt_at e1) (lt_at e2) y5 y5
  have es:∀ u,Zu ((bkP x).access,(k:Int),u)=some (bkA (shfA x.access k u)):=fun u=>rshf_ok u ha (lt_at hk)
  have p1:=rmov_put (out:=out) (x:=x) (f:=m) (t:=n) (d:=0 - m) (a':=(if a < m then m else a) - m) (b':=b - m) hs y5 hz hb hk e1 e2 (by unfold cutH cutL; split <;> split <;> (try split) <;> (try split) <;> omega) (by unfold cutH cutL; intro h; split <;> split at h <;> (try split) <;> (try split) <;> omega);have p2:=rmov_put (out:=putT out (movP k m n (0 - m) x)) (x:=x) (f:=0) (t:=m) (d:=n - m) (a':=a+n - m) (b':=(if m < b then m else b)+n - m) hs y5 hz1 hb hk e1 e2 (by unfold cutH cutL; split <;> split <;> (try split) <;> (try split) <;> omega) (by unfold cutH cutL; intro h; split <;> split at h <;> (try split) <;> (try split) <;> omega);rw [w8] at p1;rw [w9] at p2;simp only [h1,if_true,h2,Qe,i1,i2,w1,w2,w3,w4,w5,w6,w7,ec,es,p1,p2,hW,ih,List.flatMap_cons,rotP,List.foldl_append,List.foldl_cons,List.foldl_nil]
theorem rRot_ok {l:List Qc} {m:Int} {Q:Qc→Prop} (h:Inv P s l) (hc:checkR s=0) (hP:prodI s≤20000) (hk:s[k]? = some n) (h0:0≤m) (hm:m≤n) (hp:Pre Q s (l.flatMap (rotP k m n))):YX (l.map bkP,(k:Int),m,n)=some ((sortT ((l.flatMap (rotP k m n)).filter fullP)).map bkP):=by
 obtain ⟨h1,h2,h3⟩:=checkR_ok hc;have hll:=h.len4 hc hP;have e:=rRot_L1 hk (h3 n (jF hk)).2 y5 h0 hm l [] [] (by simpa using by omega) y7 (fun z hz=>by simp at hz) (fun x hx=>⟨h.wk x hx,h.acc x hx⟩);have e':Zm (l.map bkP,(k:Int),m,n,[],0)=some (((l.flatMap (rotP k m n)).foldl putT []).map bkP):=e;simp only [YX,e',Qe,put_fold hp.dist]
end
def nrmA (a:Qn):Prop:=W a.base=a.base∧W a.start=a.start
theorem shf_zero {a:Qn} {k:Nat} (h:nrmA a):shfA a k (W (0 - 0))=a:=by
 obtain ⟨kd,bu,ba,st,sa,sp,md⟩:=a;obtain ⟨h1,h2⟩:=h;simp only at h1 h2;have w:W (0 - 0)=0:=by decide
 have w0:W 0=0:=by decide
 simp only [shfA,addA,w,Int.zero_mul,w0,Int.add_zero,h1,h2,ite_self]
theorem mov_zero {s:List Int} {k:Nat} {n:Int} {x:Qc} (hb:wkB s x.box.lo x.box.hi) (hk:s[k]? = some n) (hn:n≤65536) (hr:nrmA x.access):movP k 0 65536 0 x=x:=by
 obtain ⟨a,b,e1,e2,k0,k1,k2⟩:=wk_at hb hk;have c1:cutL a 0 65536+0=a:=by unfold cutL; split <;> (try split) <;> omega
 have c2:cutH a b 0 65536+0=b:=by unfold cutH cutL; split <;> split <;> (try split) <;> (try split) <;> omega
 unfold movP;rw [getD_at e1,getD_at e2,c1,c2,set_same e1,set_same e2,shf_zero hr]
section
variable {P1 P2:Qc→Prop} {s:List Int} {k:Nat} {n1 n2:Int}
theorem rCat_L1 (hs:s.length≤600) (p1:List Qb) (p2 p3:Int):∀ (l p out:List Qc),p.length+l.length≤30000→out.length≤p.length→(∀ z∈out,z.box.lo.length=s.length)→(∀ x∈l,wkB s x.box.lo x.box.hi) →
  QZ ((p++l).map bkP,p1,p2,p3,out.map bkP,(p.length:Int))=some ((l.foldl putT out).map bkP)
 | [],p,out,h,ho,hz,hw=>by
  rw [QZ]
  have:¬ ((p.length:Int) < (((p++[]).map bkP).length:Int)):=by simp
  simp only [this,if_false]; rfl
 | x::l,p,out,h,ho,hz,hw=>by
  rw [QZ];obtain ⟨l1,l2⟩:=wk_len (hw x (jM ..));have h1:((p.length:Int) < (((p++x::l).map bkP).length:Int)):=by simp; omega
  have h2:idx ((p++x::l).map bkP) (p.length:Int)=some (bkP x):=idx_of y7;have hpl:p.length≤30000:=by simp at h; omega
  have pl1:=put_len out x;have ih:=rCat_L1 hs p1 p2 p3 l (p++[x]) (putT out x) (by simp at h ⊢; omega) y6 (put_lo hz l1) (fun y hy=>hw y (jG _ hy));rw [← Qr] at ih;have hW:W ((p.length:Int)+1)=((p++[x]).length:Int):=W_len y5;have ep:QJ (out.map bkP,bkP x)=some ((putT out x).map bkP):=put_ok (n:=s.length) hs y5 hz ⟨l1,l2⟩ rfl fun _=>rfl
  simp only [h1,if_true,h2,Qe,ep,hW,ih,List.foldl_cons]
theorem rCat_L2 {m:Int} (hk:s[k]? = some m) (hm:m≤65536) (hs:s.length≤600) (h0:0≤n1) (hn1:n1≤65536):∀ (l p out:List Qc),p.length+l.length≤30000→out.length≤p.length+30000→(∀ z∈out,z.box.lo.length=s.length)→(∀ x∈l,wkB s x.box.lo x.box.hi∧wfA s.length x.access) →
  Q0 ((p++l).map bkP,(k:Int),n1,out.map bkP,(p.length:Int))=some (((l.map (movP k 0 65536 n1)).foldl putT out).map bkP)
 | [],p,out,h,ho,hz,hw=>by
  rw [Q0]
  have:¬ ((p.length:Int) < (((p++[]).map bkP).length:Int)):=by simp
  simp only [this,if_false]; rfl
 | x::l,p,out,h,ho,hz,hw=>by
  rw [Q0];obtain ⟨hb,ha⟩:=hw x (jM ..);obtain ⟨l1,l2⟩:=wk_len hb;obtain ⟨a,b,e1,e2,k0,k1,k2⟩:=wk_at hb hk;have h1:((p.length:Int) < (((p++x::l).map bkP).length:Int)):=by simp; omega
  have h2:idx ((p++x::l).map bkP) (p.length:Int)=some (bkP x):=idx_of y7;have hpl:p.length≤30000:=by simp at h; omega
  have hx1:(movP k 0 65536 n1 x).box.lo.length=s.length:=by simp [movP,l1]
  have pl1:=put_len out (movP k 0 65536 n1 x);have ih:=rCat_L2 hk hm hs h0 hn1 l (p++[x]) (putT out (movP k 0 65536 n1 x)) (by simp at h ⊢; omega) y6 (put_lo hz hx1) (fun y hy=>hw y (jG _ hy));rw [← Qr] at ih;have hW:W ((p.length:Int)+1)=((p++[x]).length:Int):=W_len y5;have i1:idx (bkP x).box.lo (k:Int)=some a:=idx_at e1;have i2:idx (bkP x).box.hi (k:Int)=some b:=idx_at e2;have w1:W (a+n1)=a+n1:=W_in y5 y5;have w2:W (b+n1)=b+n1:=W_in y5 y5;have ec:∀ u v,Zb ((bkP x).box,(k:Int),u,v)=some ⟨x.box.lo.set k u,x.box.hi.set k v⟩:=fun u v=>chg_ok (lt_at e1) (lt_at e2) y5 y5
  have es:∀ u,Zu ((bkP x).access,(k:Int),u)=some (bkA (shfA x.access k u)):=fun u=>rshf_ok u ha (lt_at hk)
  have p1:=rmov_put (out:=out) (x:=x) (f:=0) (t:=65536) (d:=n1) (a':=a+n1) (b':=b+n1) hs y5 hz hb hk e1 e2 (by unfold cutH cutL; split <;> split <;> (try split) <;> (try split) <;> omega) (by unfold cutH cutL; intro h; split <;> split <;> (try split) <;> (try split) <;> omega);simp only [h1,if_true,h2,Qe,i1,i2,w1,w2,ec,es,p1,hW,ih,zS,List.foldl_cons]
theorem rCat_ok {l1 l2:List Qc} {Q:Qc→Prop} (h1:Inv P1 (s.set k n1) l1) (h2:Inv P2 (s.set k n2) l2) (hc1:checkR (s.set k n1)=0) (hc2:checkR (s.set k n2)=0) (hP1:prodI (s.set k n1)≤20000) (hP2:prodI (s.set k n2)≤20000) (hk:s[k]? = some (n1+n2)) (hr:∀ x∈l1,nrmA x.access)
  (hp:Pre Q s (l1.map (movP k 0 65536 0)++l2.map (movP k 0 65536 n1))):Yv (l1.map bkP,l2.map bkP,(k:Int),n1)=some ((sortT ((l1.map (movP k 0 65536 0)++l2.map (movP k 0 65536 n1)).filter fullP)).map bkP):=by
 have hll1:=h1.len4 hc1 hP1;have hll2:=h2.len4 hc2 hP2;have hkl:k < s.length:=lt_at hk;have hk1:(s.set k n1)[k]? = some n1:=by simp [hkl]
 have hk2:(s.set k n2)[k]? = some n2:=by simp [hkl]
 have b1:=(checkR_ok hc1).2.2 n1 (jF hk1);have b2:=(checkR_ok hc2).2.2 n2 (jF hk2);have hsl0:=(checkR_ok hc1).1;have hsl:s.length≤16:=by have:=(checkR_ok hc1).1; rwa [zR] at this
 have hm1:l1.map (movP k 0 65536 0)=l1:=by
  have:l1.map (movP k 0 65536 0)=l1.map id:=List.map_congr_left fun x hx=>mov_zero (h1.wk x hx) hk1 b1.2 (hr x hx)
  rw [this,List.map_id]
 have e1:=rCat_L1 (s:=s.set k n1) y5 (l2.map bkP) (k:Int) n1 l1 [] [] (by simpa using by omega) y7 (fun z hz=>by simp at hz) h1.wk;have e1':QZ (l1.map bkP,l2.map bkP,(k:Int),n1,[],0)=some ((l1.foldl putT []).map bkP):=e1
 have hfl:(l1.foldl putT []).length≤30000∧∀ z∈l1.foldl putT [],z.box.lo.length=(s.set k n2).length:=by
  have hp1:=put_fold_perm l1 [];rw [jU] at hp1;refine ⟨?_,fun z hz=>?_⟩
  ·rw [hp1.length_eq];exact jW (List.length_filter_le _ _) y5
  ·have:=(List.mem_filter.1 (hp1.mem_iff.1 hz)).1;have:=(wk_len (h1.wk z this)).1
   simpa using this
 have e2:=rCat_L2 (s:=s.set k n2) (n1:=n1) hk2 b2.2 (by simpa using by simpa using by omega) b1.1 b1.2 l2 [] (l1.foldl putT []) (by simpa using by omega) (by simpa using hfl.1) hfl.2 (fun x hx=>⟨h2.wk x hx,h2.acc x hx⟩);have e2':Q0 (l2.map bkP,(k:Int),n1,(l1.foldl putT []).map bkP,0)=some (((l2.map (movP k 0 65536 n1)).foldl putT (l1.foldl putT [])).map bkP):=e2;simp only [Yv,e1',Qe,e2',← List.foldl_append];rw [hm1] at hp ⊢;rw [put_fold hp.dist]
end
theorem tr2_L3 (v1 p0:Qa) (j:Int):∀ (s t p q:List Int) (v r:Int),v1.shape=p++s→p0.perm=q++t→s.length=t.length→p.length=q.length→Sm (p++s).length →
  Qw (v1,p0,j,v,(p.length:Int))=some r→r=v∨(j,r)∈t.zip s
 | [],[],p,q,v,r,e1,e2,_,h2,hs,h=>by
  rw [Qw] at h; simp only [e1,Q4,if_false] at h;cases h; exact .inl rfl
 | n::s,x::t,p,q,v,r,e1,e2,h1,h2,hs,h=>by
  rw [Qw] at h;have ih:=fun v h=>tr2_L3 v1 p0 j s t (p++[n]) (q++[x]) v r (by rw [e1]; simp) (by rw [e2]; simp) (by simpa using h1) (by simp [h2]) (by rw [← Qr]; exact hs) h
  have hi:idx (q++x::t) (p.length:Int)=some x:=by rw [h2]; exact Qy
  simp only [e1,e2,QU,if_true,hi,Qe,Qy,mid_W hs] at h;have old:Qw (v1,p0,j,v,((p++[n]).length:Int))=some r→r=v∨(j,r)∈(x::t).zip (n::s):=fun h=>(ih v h).imp id fun h=>jG _ h
  have new:x=j→Qw (v1,p0,j,n,((p++[n]).length:Int))=some r→r=v∨(j,r)∈(x::t).zip (n::s):=fun hx h=>by
   rcases ih n h with rfl|h
   ·right; rw [hx]; exact jM ..
   ·exact .inr (jG _ h)
  by_cases hx:x=j
  ·simp only [hx,if_true] at h;by_cases hv:v < 0
   ·simp only [hv,if_true,Qe] at h; exact new hx h
   ·by_cases hn:n < v
    ·simp only [hv,hn,if_false,Qe,decide_true,if_true] at h; exact new hx h
    ·simp only [hv,hn,if_false,Qe,zY,j6] at h; exact old h
  ·simp only [hx,if_false,Qe,j6] at h; exact old h
 | [],_::_,_,_,_,_,_,_,h,_,_,_=>by cases h
 | _::_,[],_,_,_,_,_,_,h,_,_,_=>by cases h
theorem tr2_L2 (v1 p0:Qa) (hl:v1.shape.length=p0.perm.length) (hv:Sm v1.shape.length):∀ (s p:List Int),p0.shape=p++s→Sm (p++s).length →
  QB (p0,v1,(p.length:Int))=some (.inr ())→∀ k,k < s.length→s.getD k 0=-1∨(((p.length+k:Nat):Int),s.getD k 0)∈p0.perm.zip v1.shape
 | [],p,e1,hs,_,k,hk=>by cases hk
 | n::s,p,e1,hs,h,k,hk=>by
  rw [QB] at h;obtain ⟨r,er,_⟩:=tr_L3 v1 p0 (p.length:Int) v1.shape p0.perm [] [] (-1) rfl rfl hl rfl hv;have hr:=tr2_L3 v1 p0 (p.length:Int) v1.shape p0.perm [] [] (-1) r rfl rfl hl rfl hv er;have er':Qw (v1,p0,(p.length:Int),-1,0)=some r:=er;have ih:=tr2_L2 v1 p0 hl hv s (p++[n]) (by rw [e1]; simp) (by rw [← Qr]; exact hs);simp only [e1,QU,if_true,er',Qe,Qy,mid_W hs] at h;by_cases hn:r=n
  ·rw [if_neg (fun h=>h hn)] at h;cases k with
   | zero=>subst hn; simpa using hr
   | succ k =>
    have:=ih h k (by simpa using hk);simp only [jV,zE,jL] at this;rw [show p.length+(k+1)=p.length+(0+1)+k by omega]
    simpa using this
  ·rw [if_pos hn] at h; cases h
theorem tra_dia {c k:Qa} {r:List Qa} (nf:nodeF c) (h5:c.kind=5) (hk:c.kids=k::r) (hks:k.shape.length≤600):∀ j,j < c.shape.length→((j:Int),c.shape.getD j 0)∈c.perm.zip k.shape:=fun j hj=>by
 obtain ⟨h1,h2,h3⟩:=checkR_ok nf.chk;have ht:=nf.tr2 h5;have hl:=(nf.tra h5 k r hk).1;have hi:idx c.kids 0=some k:=by rw [hk]; rfl
 have s1:Sm ([]++k.shape).length:=Sm_of (show ([]++k.shape).length≤1000 by simp; omega);have s2:Sm ([]++c.shape).length:=Sm_of (show ([]++c.shape).length≤1000 by simp; omega)
 have e2:QB (c,k,0)=some (.inr ()):=by
  unfold ZE at ht;simp only [hi,Qe] at ht;rw [if_neg y5] at ht;cases e:QI (k,c,0) with
  | none=>rw [e] at ht; cases ht
  | some o =>
   rw [e,Qe] at ht;cases o with
   | inl _=>cases ht
   | inr _ =>
    simp only at ht;cases e2:QB (c,k,0) with
    | none=>rw [e2] at ht; cases ht
    | some o =>
     rw [e2,Qe] at ht;cases o with
     | inl _=>cases ht
     | inr _=>rfl
 rcases tr2_L2 k c hl.symm s1 c.shape [] rfl s2 e2 j hj with h|h
 ·have:=(h3 (c.shape.getD j 0) (by rw [getD_el hj]; exact z8 _)).1;omega
 ·simpa using h
def tlo (j:Int):List Int→List Int→Int→Int
 | p::ps,a::l,v=>tlo j ps l (if p=j then (if v < a then a else v) else v)
 | _,_,v=>v
def thi (j:Int):List Int→List Int→Int→Int
 | p::ps,b::h,v=>thi j ps h (if p=j then (if b < v then b else v) else v)
 | _,_,v=>v
def tst (j:Int):List Int→List Int→Int→Int
 | p::ps,c::st,v=>tst j ps st (if p=j then W (v+c) else v)
 | _,_,v=>v
theorem getD_set' {l:List Int} {i j:Nat} {v:Int} (hi:i < l.length):(l.set i v).getD j 0=if i=j then v else l.getD j 0:=by
 simp only [jB,zC,hi,if_true];split <;> rfl
theorem perLo_get (j:Nat):∀ (ps l lo:List Int),(∀ p∈ps,0≤p∧p.toNat < lo.length)→(perLo ps l lo).getD j 0=tlo (j:Int) ps l (lo.getD j 0)
 | [],_,_,_=>by rw [perLo,tlo] <;> simp
 | _::_,[],_,_=>by rw [perLo,tlo] <;> simp
 | p::ps,a::l,lo,h=>by
  obtain ⟨h1,h2⟩:=h p (jM ..);rw [perLo,tlo,perLo_get j ps l _ (fun q hq=>by rw [zR]; exact h q (jG _ hq)),getD_set' h2];by_cases e:p=(j:Int)
  ·rw [if_pos e,if_pos y5,show p.toNat=j by omega]
  ·rw [if_neg e,if_neg y5]
theorem perHi_get (j:Nat):∀ (ps l hi:List Int),(∀ p∈ps,0≤p∧p.toNat < hi.length)→(perHi ps l hi).getD j 0=thi (j:Int) ps l (hi.getD j 0)
 | [],_,_,_=>by rw [perHi,thi] <;> simp
 | _::_,[],_,_=>by rw [perHi,thi] <;> simp
 | p::ps,a::l,hi,h=>by
  obtain ⟨h1,h2⟩:=h p (jM ..);rw [perHi,thi,perHi_get j ps l _ (fun q hq=>by rw [zR]; exact h q (jG _ hq)),getD_set' h2];by_cases e:p=(j:Int)
  ·rw [if_pos e,if_pos y5,show p.toNat=j by omega]
  ·rw [if_neg e,if_neg y5]
theorem perS_get (j:Nat):∀ (ps l out:List Int),(∀ p∈ps,0≤p∧p.toNat < out.length)→(perS ps l out).getD j 0=tst (j:Int) ps l (out.getD j 0)
 | [],_,_,_=>by rw [perS,tst] <;> simp
 | _::_,[],_,_=>by rw [perS,tst] <;> simp
 | p::ps,a::l,out,h=>by
  obtain ⟨h1,h2⟩:=h p (jM ..);rw [perS,tst,perS_get j ps l _ (fun q hq=>by rw [zR]; exact h q (jG _ hq)),getD_set' h2];by_cases e:p=(j:Int)
  ·rw [if_pos e,if_pos y5,show p.toNat=j by omega,Int.zero_add,W_add_l]
  ·rw [if_neg e,if_neg y5]
theorem thi_same (j:Int) {b:Int}:∀ (ps h:List Int) (v w:Int),v≤w→(j,b)∈ps.zip h→b≤v→thi j ps h v=thi j ps h w
 | [],_,_,_,_,h,_=>by simp at h
 | _::_,[],_,_,_,h,_=>by simp at h
 | p::ps,c::h,v,w,hvw,hm,hb=>by
  rw [thi,thi];rw [List.zip_cons_cons] at hm;by_cases e:p=j
  ·rw [if_pos e,if_pos e];by_cases g:c < v
   ·rw [if_pos g,if_pos (show c < w by omega)]
   ·rw [if_neg g];rcases List.mem_cons.1 hm with q|q
    ·have:b=c:=(Prod.mk.inj q).2
     by_cases g2:c < w
     ·rw [if_pos g2,show v=c by omega]
     ·rw [if_neg g2,show v=w by omega]
    ·exact thi_same j ps h _ _ (by split <;> omega) q hb
  ·rw [if_neg e,if_neg e];rcases List.mem_cons.1 hm with q|q
   ·exact absurd (Prod.mk.inj q).1.symm e
   ·exact thi_same j ps h _ _ hvw q hb
theorem ext_getD {a:List Int} {n:Nat} {f:Nat→Int} (h:a.length=n) (hf:∀ j,j < n→a.getD j 0=f j):a=(List.range' 0 n).map f:=by
 refine List.ext_getElem (by simp [h]) fun j h1 h2=>?_
 have:=hf j y5;rw [getD_el h1] at this;rw [this]; simp
theorem rTra_L3 (perm:List Int) (j:Int) (p0:List Qb) (i:Int) (x:Qc) (hp:idx p0 i=some (bkP x)) (p2:List Int) (out:List Qb) (q1 q2:List Int):∀ (ps l h pp pl ph:List Int) (v w:Int),perm=pp++ps→x.box.lo=pl++l→x.box.hi=ph++h→l.length=ps.length→h.length=ps.length→pl.length=pp.length→ph.length=pp.length→pp.length+ps.length≤600 →
  QN (perm,j,p0,i,p2,out,q1,q2,v,w,(pp.length:Int))=some (tlo j ps l v,thi j ps h w)
 | [],[],[],pp,pl,ph,v,w,e0,e1,e2,h1,h2,h3,h4,h5=>by
  rw [QN];simp only [e0,Q4,if_false]; rfl
 | p::ps,a::l,b::h,pp,pl,ph,v,w,e0,e1,e2,h1,h2,h3,h4,h5=>by
  rw [QN];have i1:idx (bkP x).box.lo (pp.length:Int)=some a:=by show idx x.box.lo _=_; rw [e1,← h3]; exact Qy
  have i2:idx (bkP x).box.hi (pp.length:Int)=some b:=by show idx x.box.hi _=_; rw [e2,← h4]; exact Qy
  have ih:=fun v w=>rTra_L3 perm j p0 i x hp p2 out q1 q2 ps l h (pp++[p]) (pl++[a]) (ph++[b]) v w (by rw [e0,Qr]) (by rw [e1,Qr]) (by rw [e2,Qr]) (by simpa using h1) (by simpa using h2) (by simp [h3]) (by simp [h4]) (by simp at h5 ⊢; omega)
  have h':pp.length≤100000:=by simp at h5; omega
  have hW:W ((pp.length:Int)+1)=((pp++[p]).length:Int):=W_len h';have ix:idx perm (pp.length:Int)=some p:=by rw [e0]; exact Qy
  have lt:(pp.length:Int) < (perm.length:Int):=by rw [e0]; exact QU
  simp only [lt,if_true,ix,Qe,hW,hp,i1,i2,ih,tlo,thi];by_cases e:p=j
  ·simp only [e,if_true]
  ·simp only [e,if_false]
 | [],_::_,_,_,_,_,_,_,_,_,_,h,_,_,_,_=>by simp at h
 | [],_,_::_,_,_,_,_,_,_,_,_,_,h,_,_,_=>by simp at h
 | _::_,[],_,_,_,_,_,_,_,_,_,h,_,_,_,_=>by simp at h
 | _::_,_,[],_,_,_,_,_,_,_,_,_,h,_,_,_=>by simp at h
theorem range'_cons {α:Type} (f:Nat→α) (i n:Nat):(List.range' i (n+1)).map f=f i::(List.range' (i+1) n).map f:=by rw [List.range'_succ,zS]
theorem rTra_L2 (perm:List Int) (p0:List Qb) (i:Int) (x:Qc) (hp:idx p0 i=some (bkP x)) (hl:x.box.lo.length=perm.length) (hh:x.box.hi.length=perm.length) (hpl:perm.length≤600) (out:List Qb):∀ (s p lo hi:List Int),lo.length=p.length→hi.length=p.length→p.length+s.length≤600 →
  Q3 (p++s,perm,p0,i,out,lo,hi,(p.length:Int))=some (lo++(List.range' p.length s.length).map (fun j:Nat=>tlo (j:Int) perm x.box.lo 0),hi++(List.range' p.length s.length).map (fun j:Nat=>thi (j:Int) perm x.box.hi 65536))
 | [],p,lo,hi,h1,h2,h3=>by
  rw [Q3];simp only [Q4,if_false]; simp
 | n::s,p,lo,hi,h1,h2,h3=>by
  rw [Q3];have e:=rTra_L3 perm (p.length:Int) p0 i x hp (p++n::s) out lo hi perm x.box.lo x.box.hi [] [] [] 0 65536 rfl rfl rfl hl hh rfl rfl (by simpa using hpl);have e':QN (perm,(p.length:Int),p0,i,p++n::s,out,lo,hi,0,65536,0)=some (tlo (p.length:Int) perm x.box.lo 0,thi (p.length:Int) perm x.box.hi 65536):=e;have h':p.length≤100000:=by simp at h3; omega
  have ih:=rTra_L2 perm p0 i x hp hl hh hpl out s (p++[n]) (lo++[tlo (p.length:Int) perm x.box.lo 0]) (hi++[thi (p.length:Int) perm x.box.hi 65536]) (by simp [h1]) (by simp [h2]) (by simp at h3 ⊢; omega);rw [← Qr] at ih;have hW:W ((p.length:Int)+1)=((p++[n]).length:Int):=W_len h';have hpp:p.length≤600:=by simp at h3; omega
  simp only [QU,if_true,e',Qe];rw [app_le y6 y5,Qe,app_le y6 y5,Qe,hW,ih];simp only [zE,range'_cons,jV,jL,List.append_assoc,List.singleton_append,zW]
theorem rPer_L2 (perm:List Int) (a:Qm) (j n:Int) (q:List Int):∀ (ps st pp pst:List Int) (v:Int),perm=pp++ps→a.strides=pst++st→st.length=ps.length→pst.length=pp.length→pp.length+ps.length≤600 →
  QX (perm,j,a,n,q,v,(pp.length:Int))=some (tst j ps st v)
 | [],[],pp,pst,v,e0,e1,h1,h2,h3=>by
  rw [QX];simp only [e0,Q4,if_false]; rfl
 | p::ps,c::st,pp,pst,v,e0,e1,h1,h2,h3=>by
  rw [QX];have ih:=fun v=>rPer_L2 perm a j n q ps st (pp++[p]) (pst++[c]) v (by rw [e0,Qr]) (by rw [e1,Qr]) (by simpa using h1) (by simp [h2]) (by simp at h3 ⊢; omega)
  have h':pp.length≤100000:=by simp at h3; omega
  have hW:W ((pp.length:Int)+1)=((pp++[p]).length:Int):=W_len h';have ix:idx perm (pp.length:Int)=some p:=by rw [e0]; exact Qy
  have i1:idx a.strides (pp.length:Int)=some c:=by rw [e1,← h2]; exact Qy
  have lt:(pp.length:Int) < (perm.length:Int):=by rw [e0]; exact QU
  simp only [lt,if_true,ix,Qe,hW,i1,ih,tst];by_cases e:p=j
  ·simp only [e,if_true]
  ·simp only [e,if_false]
 | [],_::_,_,_,_,_,_,h,_,_=>by simp at h
 | _::_,[],_,_,_,_,_,h,_,_=>by simp at h
theorem rPer_L1 (perm:List Int) (a:Qm) (hs:a.strides.length=perm.length) (hpl:perm.length≤600):∀ (n i r:Nat) (out:List Int),out.length=i→i+n=r→r≤600 →
  Q7 ((r:Int),perm,a,out,(i:Int))=some (out++(List.range' i n).map (fun j:Nat=>tst (j:Int) perm a.strides 0))
 | 0,i,r,out,h1,h2,h3=>by
  rw [Q7];rw [if_neg y5]; simp
 | n+1,i,r,out,h1,h2,h3=>by
  rw [Q7];have e:=rPer_L2 perm a (i:Int) (r:Int) out perm a.strides [] [] 0 rfl rfl hs rfl (by simpa using hpl);have e':QX (perm,(i:Int),a,(r:Int),out,0,0)=some (tst (i:Int) perm a.strides 0):=e;have ih:=rPer_L1 perm a hs hpl n (i+1) r (out++[tst (i:Int) perm a.strides 0]) (by simp [h1]) y5 h3;rw [if_pos y5];simp only [e',Qe];rw [app_le y6 y5,Qe,W_nat y5,ih,range'_cons];simp
theorem rper_ok {a:Qn} {perm:List Int} {r:Nat} (h:wfA perm.length a) (hl:perm.length≤600) (hr:r≤600) (hp:∀ j∈perm,0≤j∧j.toNat < r) (hn:nrmA a):Z3 (bkA a,perm,(r:Int))=some (bkA (perA a perm r)):=by
 by_cases h1:a.kind=1
 ·have e:(bkA a).kind=1:=h1;simp only [Z3,e,if_true,perA,h1]
 ·have e:¬ (bkA a).kind=1:=h1;have hs:a.strides.length=perm.length:=by rcases h with h|h; exact absurd h h1; exact h.2
  have e1:=rPer_L1 perm (bkA a) hs hl r 0 r [] rfl y5 hr;have e1':Q7 ((r:Int),perm,bkA a,[],0)=some ((List.range' 0 r).map (fun j:Nat=>tst (j:Int) perm a.strides 0)):=e1;have e2:=radd_ok (n:=0) (st:=(List.range' 0 r).map (fun j:Nat=>tst (j:Int) perm a.strides 0)) h h1
  have e3:perS perm a.strides (List.replicate r 0)=(List.range' 0 r).map (fun j:Nat=>tst (j:Int) perm a.strides 0):=ext_getD (by rw [perS_len]; simp) fun j hj=>by
   rw [perS_get j _ _ _ (fun p hp'=>by simpa using hp p hp'),rep_getD]
  simp only [Z3,e,if_false,e1',Qe,e2];congr 2;obtain ⟨kd,bu,ba,st,sa,sp,md⟩:=a;obtain ⟨n1,n2⟩:=hn;simp only at n1 n2 h1;simp only [perA,if_neg h1,addA,Int.add_zero,n1,n2,e3,ite_self]
section
variable {P:Qc→Prop} {s s0 perm:List Int}
theorem rTra_box (hs:s.length≤600) (h65:∀ n∈s,n≤65536) (hp:∀ j∈perm,0≤j∧j.toNat < s.length) (hd:∀ j,j < s.length→((j:Int),s.getD j 0)∈perm.zip s0) {x:Qc} (hl0:perm.length=s0.length) (hb:wkB s0 x.box.lo x.box.hi) :
  (List.range' 0 s.length).map (fun j:Nat=>tlo (j:Int) perm x.box.lo 0)=perLo perm x.box.lo (List.replicate s.length 0)∧(List.range' 0 s.length).map (fun j:Nat=>thi (j:Int) perm x.box.hi 65536)=perHi perm x.box.hi s:=by
 constructor
 ·refine (ext_getD (by rw [perLo_len]; simp) fun j hj=>?_).symm;rw [perLo_get j _ _ _ (fun p hp'=>by simpa using hp p hp'),rep_getD]
 ·refine (ext_getD (by rw [perHi_len]) fun j hj=>?_).symm;rw [perHi_get j _ _ _ hp];obtain ⟨i,hi,e⟩:=List.getElem_of_mem (hd j hj);rw [List.getElem_zip] at e;obtain ⟨e1,e2⟩:=Prod.mk.inj e;have hi1:i < perm.length:=by simp at hi; omega
  have hi2:i < s0.length:=by omega
  obtain ⟨l1,l2⟩:=wk_len hb;obtain ⟨a,b,g1,g2,k0,k1,k2⟩:=wk_at hb (jC hi2);have hbi:i < x.box.hi.length:=by omega
  have hbv:x.box.hi[i]=b:=by
   have:=jC hbi;rw [this] at g2; exact jS g2
  refine thi_same (j:Int) (b:=b) perm x.box.hi _ _ (h65 _ (by rw [getD_el hj]; exact z8 _)) ?_ y5;have hz:i < (perm.zip x.box.hi).length:=by simp; omega
  have:=z8 hz;rw [List.getElem_zip,e1,hbv] at this;exact this
theorem rTra_L1 (hs:s.length≤600) (h65:∀ n∈s,n≤65536) (hp:∀ j∈perm,0≤j∧j.toNat < s.length) (hd:∀ j,j < s.length→((j:Int),s.getD j 0)∈perm.zip s0) (hl0:perm.length=s0.length) (hpl:perm.length≤600):∀ (l p out:List Qc),p.length+l.length≤50000→out.length≤p.length→(∀ z∈out,z.box.lo.length=s.length)→(∀ x∈l,wkB s0 x.box.lo x.box.hi∧wfA s0.length x.access∧nrmA x.access) →
  QS ((p++l).map bkP,s,perm,out.map bkP,(p.length:Int))=some (((l.map (perP perm s)).foldl putT out).map bkP)
 | [],p,out,h,ho,hz,hw=>by
  rw [QS]
  have:¬ ((p.length:Int) < (((p++[]).map bkP).length:Int)):=by simp
  simp only [this,if_false]; rfl
 | x::l,p,out,h,ho,hz,hw=>by
  rw [QS];obtain ⟨hb,ha,hn⟩:=hw x (jM ..);obtain ⟨l1,l2⟩:=wk_len hb;have h1:((p.length:Int) < (((p++x::l).map bkP).length:Int)):=by simp; omega
  have h2:idx ((p++x::l).map bkP) (p.length:Int)=some (bkP x):=idx_of y7;have hxl:(perP perm s x).box.lo.length=s.length:=by simp [perP,perLo_len]
  have hpp:p.length≤50000:=by simp at h; omega
  have ih:=rTra_L1 hs h65 hp hd hl0 hpl l (p++[x]) (putT out (perP perm s x)) (by simp at h ⊢; omega) (by have:=put_len out (perP perm s x); simp; omega) (put_lo hz hxl) (fun y hy=>hw y (jG _ hy));rw [← Qr] at ih;have hW:W ((p.length:Int)+1)=((p++[x]).length:Int):=W_len y5;have e2:=rTra_L2 perm ((p++x::l).map bkP) (p.length:Int) x h2 y5 y5 hpl (out.map bkP) s [] [] [] rfl rfl (by simpa using hs);obtain ⟨b1,b2⟩:=rTra_box hs h65 hp hd hl0 hb;simp only [jQ,jL,jJ,b1,b2] at e2;have e3:Z3 ((bkP x).access,perm,(s.length:Int))=some (bkA (perA x.access perm s.length)):=rper_ok (by rw [hl0]; exact ha) hpl hs hp hn
  have ep:QJ (out.map bkP,⟨⟨perLo perm x.box.lo (List.replicate s.length 0),perHi perm x.box.hi s⟩,bkA (perA x.access perm s.length)⟩)=some ((putT out (perP perm s x)).map bkP):=put_ok (n:=s.length) hs y5 hz ⟨by simp [perLo_len],by simp [perHi_len]⟩ rfl fun _=>rfl
  simp only [h1,if_true,e2,Qe,h2,e3,ep,hW,ih,zS,List.foldl_cons]
theorem rTra_ok {l:List Qc} {Q:Qc→Prop} (h:Inv P s0 l) (hc0:checkR s0=0) (hP0:prodI s0≤20000) (hc:checkR s=0) (hl0:perm.length=s0.length) (hp:∀ j∈perm,0≤j∧j.toNat < s.length) (hd:∀ j,j < s.length→((j:Int),s.getD j 0)∈perm.zip s0) (hn:∀ x∈l,nrmA x.access)
  (hpr:Pre Q s (l.map (perP perm s))):Ye (l.map bkP,perm,s)=some ((sortT ((l.map (perP perm s)).filter fullP)).map bkP):=by
 obtain ⟨h1,h2,h3⟩:=checkR_ok hc;obtain ⟨g1,g2,g3⟩:=checkR_ok hc0;have hll:=h.len4 hc0 hP0;have e:=rTra_L1 (s:=s) (s0:=s0) (perm:=perm) y5 (fun n hn=>(h3 n hn).2) hp hd hl0 y5 l [] [] (by simpa using by omega) y7 (fun z hz=>by simp at hz) (fun x hx=>⟨h.wk x hx,h.acc x hx,hn x hx⟩);have e':QS (l.map bkP,s,perm,[],0)=some (((l.map (perP perm s)).foldl putT []).map bkP):=e;simp only [Ye,e',Qe,put_fold hpr.dist]
end
def rlo:List Int→List Int→List Int
 | l::lo,n::st=>(if W (l - n) < 0 then 0 else W (l - n))::rlo lo st
 | _,_=>[]
def rhi:List Int→List Int→List Int→List Int
 | h::hi,t::ts,n::st=>(if t < W (h - n) then t else W (h - n))::rhi hi ts st
 | _,_,_=>[]
theorem rlo_len:∀ {lo st:List Int},lo.length=st.length→(rlo lo st).length=st.length
 | [],[],_=>rfl
 | l::lo,n::st,h=>by rw [rlo,zE,zE,rlo_len (by simpa using h)]
 | [],_::_,h=>by simp at h
 | _::_,[],h=>by simp at h
theorem rhi_len:∀ {hi t st:List Int},hi.length=st.length→t.length=st.length→(rhi hi t st).length=st.length
 | [],[],[],_,_=>rfl
 | l::lo,t::ts,n::st,h,h2=>by rw [rhi,zE,zE,rhi_len (by simpa using h) (by simpa using h2)]
 | [],_,_::_,h,_=>by simp at h
 | _::_,_,[],h,_=>by simp at h
 | _,[],_::_,_,h=>by simp at h
 | _,_::_,[],_,h=>by simp at h
theorem win_ax {l h t n:Int} (ht:0≤t):((if W (l - n) < 0 then 0 else W (l - n)) < (if t < W (h - n) then t else W (h - n))↔frm l t n < til l h t n) ∧
  ((if W (l - n) < 0 then 0 else W (l - n)) < (if t < W (h - n) then t else W (h - n))→(if W (l - n) < 0 then 0 else W (l - n))=frm l t n∧(if t < W (h - n) then t else W (h - n))=til l h t n):=by
 unfold til frm;generalize W (l - n)=x;generalize W (h - n)=y;refine ⟨?_,?_⟩
 ·split <;> split <;> split <;> (try split) <;> omega
 ·intro h; constructor <;> (split at h <;> split at h <;> (try split) <;> (try split) <;> (try split) <;> omega)
theorem win_box:∀ {lo hi t st:List Int},lo.length=st.length→t.length=st.length→hi.length=st.length→(∀ n∈t,0≤n)→fullB (rlo lo st) (rhi hi t st)=fullB (clo lo t st) (chi lo hi t st)∧(fullB (rlo lo st) (rhi hi t st)=true→rlo lo st=clo lo t st∧rhi hi t st=chi lo hi t st)
 | [],[],[],[],_,_,_,_=>⟨rfl,fun _=>⟨rfl,rfl⟩⟩
 | l::lo,h::hi,t::ts,n::st,e1,e2,e3,hp=>by
  obtain ⟨i1,i2⟩:=win_box (lo:=lo) (hi:=hi) (t:=ts) (st:=st) (by simpa using e1) (by simpa using e2) (by simpa using e3) fun m hm=>hp m (jG _ hm)
  obtain ⟨a1,a2⟩:=win_ax (l:=l) (h:=h) (n:=n) (hp t (jM ..));simp only [rlo,rhi,clo,chi,fullB];refine ⟨by rw [i1,decide_eq_decide.2 a1],fun g=>?_⟩;rw [jE,zA] at g;obtain ⟨b1,b2⟩:=a2 g.1;obtain ⟨b3,b4⟩:=i2 g.2;rw [b1,b2,b3,b4]; exact ⟨rfl,rfl⟩
 | [],_,_,_::_,h,_,_,_=>by simp at h
 | _::_,_,_,[],h,_,_,_=>by simp at h
 | _,[],_,_::_,_,_,h,_=>by simp at h
 | _,_::_,_,[],_,_,h,_=>by simp at h
 | _,_,[],_::_,_,h,_,_=>by simp at h
 | _,_,_::_,[],_,h,_,_=>by simp at h
theorem win_zip:∀ {lo hi s st:List Int},lo.length=st.length→s.length=st.length→hi.length=st.length→List.zipWith mxI (List.replicate s.length 0) (rlo lo st)=rlo lo st∧List.zipWith mnI s (rhi hi s st)=rhi hi s st
 | [],[],[],[],_,_,_=>⟨rfl,rfl⟩
 | l::lo,h::hi,t::ts,n::st,e1,e2,e3=>by
  obtain ⟨i1,i2⟩:=win_zip (lo:=lo) (hi:=hi) (s:=ts) (st:=st) (by simpa using e1) (by simpa using e2) (by simpa using e3);rw [rlo,rhi,zE,List.replicate_succ,List.zipWith_cons_cons,List.zipWith_cons_cons,i1,i2]
  have a:mxI 0 (if W (l - n) < 0 then 0 else W (l - n))=(if W (l - n) < 0 then 0 else W (l - n)):=by
   unfold mxI;generalize W (l - n)=x;split <;> split at * <;> omega
  have b:mnI t (if t < W (h - n) then t else W (h - n))=(if t < W (h - n) then t else W (h - n)):=by
   unfold mnI;generalize W (h - n)=x;split <;> split at * <;> omega
  rw [a,b]; exact ⟨rfl,rfl⟩
 | [],_,_,_::_,h,_,_=>by simp at h
 | _::_,_,_,[],h,_,_=>by simp at h
 | _,[],_,_::_,_,_,h=>by simp at h
 | _,_::_,_,[],_,_,h=>by simp at h
 | _,_,[],_::_,_,h,_=>by simp at h
 | _,_,_::_,[],_,h,_=>by simp at h
def bkB (b:QY):Qi:=⟨b.lo,b.hi⟩
theorem E6_L1:∀ (lo hi pl ph:List Int),pl.length=ph.length→lo.length=hi.length→pl.length+lo.length≤600→ZK (⟨pl++lo,ph++hi⟩,(pl.length:Int))=some (if fullB lo hi=true then .inr () else .inl ())
 | [],[],pl,ph,h1,h2,h=>by
  rw [ZK];simp only [Q4,if_false]; rfl
 | l::lo,h::hi,pl,ph,h1,h2,hl=>by
  rw [ZK];have i2:idx (ph++h::hi) (pl.length:Int)=some h:=by rw [h1]; exact Qy
  have e:=E6_L1 lo hi (pl++[l]) (ph++[h]) (by simp [h1]) (by simpa using h2) (by simp at hl ⊢; omega);rw [← Qr,← Qr] at e;simp only [QU,if_true,i2,Qy,Qe,YF hl,e,fullB];by_cases g:l < h
  ·rw [if_neg (show ¬ l≥h by omega)]; simp only [g,decide_true,Bool.true_and]
  ·rw [if_pos (show l≥h by omega)]; simp only [g,zY,Bool.false_and]; rfl
 | [],_::_,_,_,_,h,_=>by cases h
 | _::_,[],_,_,_,h,_=>by cases h
theorem empty6_ok {lo hi:List Int} (h:lo.length=hi.length) (hl:lo.length≤600):Z7 ⟨lo,hi⟩=some (!fullB lo hi):=by
 have e:=E6_L1 lo hi [] [] rfl h (by simpa using hl);simp only [jQ,jL,jJ] at e;simp only [Z7,e,Qe];cases fullB lo hi <;> rfl
theorem rInt_L1:∀ (a b c d pa pb pc pd o1 o2:List Int),b.length=a.length→c.length=a.length→d.length=a.length→pb.length=pa.length→pc.length=pa.length→pd.length=pa.length→o1.length=pa.length→o2.length=pa.length→pa.length+a.length≤600 →
  Q2 (⟨pa++a,pb++b⟩,⟨pc++c,pd++d⟩,o1,o2,(pa.length:Int))=some (o1++List.zipWith mxI a c,o2++List.zipWith mnI b d)
 | [],[],[],[],pa,pb,pc,pd,o1,o2,_,_,_,_,_,_,_,_,_=>by
  rw [Q2];simp only [Q4,if_false]; simp
 | x::a,y::b,z::c,w::d,pa,pb,pc,pd,o1,o2,h1,h2,h3,h4,h5,h6,h7,h8,hl=>by
  rw [Q2];have i2:idx (pb++y::b) (pa.length:Int)=some y:=by rw [← h4]; exact Qy
  have i3:idx (pc++z::c) (pa.length:Int)=some z:=by rw [← h5]; exact Qy
  have i4:idx (pd++w::d) (pa.length:Int)=some w:=by rw [← h6]; exact Qy
  have e:=rInt_L1 a b c d (pa++[x]) (pb++[y]) (pc++[z]) (pd++[w]) (o1++[mxI x z]) (o2++[mnI y w]) (by simpa using h1) (by simpa using h2) (by simpa using h3) (by simp [h4]) (by simp [h5]) (by simp [h6]) (by simp [h7]) (by simp [h8]) (by simp at hl ⊢; omega);rw [← Qr,← Qr,← Qr,← Qr] at e;have hpl:pa.length≤600:=by omega
  have a1:app 8 o1 [if x < z then z else x]=some (o1++[mxI x z]):=app_le y6 y5;have a2:app 8 o2 [if w < y then w else y]=some (o2++[mnI y w]):=app_le y6 y5;simp only [QU,if_true,Qy,i2,i3,i4,Qe,a1,a2,YF hl,e,List.zipWith_cons_cons];simp
 | [],_::_,_,_,_,_,_,_,_,_,h,_,_,_,_,_,_,_,_=>by simp at h
 | [],_,_::_,_,_,_,_,_,_,_,_,h,_,_,_,_,_,_,_=>by simp at h
 | [],_,_,_::_,_,_,_,_,_,_,_,_,h,_,_,_,_,_,_=>by simp at h
 | _::_,[],_,_,_,_,_,_,_,_,h,_,_,_,_,_,_,_,_=>by simp at h
 | _::_,_,[],_,_,_,_,_,_,_,_,h,_,_,_,_,_,_,_=>by simp at h
 | _::_,_,_,[],_,_,_,_,_,_,_,_,h,_,_,_,_,_,_=>by simp at h
theorem rInt_ok {a b c d:List Int} (h1:b.length=a.length) (h2:c.length=a.length) (h3:d.length=a.length) (hl:a.length≤600) :
  Yd (⟨a,b⟩,⟨c,d⟩)=some (if fullB (List.zipWith mxI a c) (List.zipWith mnI b d) then (⟨List.zipWith mxI a c,List.zipWith mnI b d⟩,true) else (⟨[],[]⟩,false)):=by
 have e:=rInt_L1 a b c d [] [] [] [] [] [] h1 h2 h3 rfl rfl rfl rfl rfl (by simpa using hl);simp only [jQ,jL,jJ] at e;have e2:=empty6_ok (lo:=List.zipWith mxI a c) (hi:=List.zipWith mnI b d) y6 y6;have g:¬ ((a.length:Int)≠(c.length:Int)):=by omega
 simp only [Yd,g,if_false,e,Qe,e2];cases fullB (List.zipWith mxI a c) (List.zipWith mnI b d) <;> rfl
theorem getD_app (p l:List Int) (k:Nat):(p++l).getD k 0=if k < p.length then p.getD k 0 else l.getD (k - p.length) 0:=by
 simp only [jB,jT]; split <;> rfl
theorem take_step {l:List Int} {k:Nat} (h:k < l.length):l.take k++[l.getD k 0]=l.take (k+1):=by
 rw [List.take_add_one,jB,jC h]; rfl
section
variable {p0 v2 p1:Qi} {i n:Nat} {out:List Qi} {LO HI:List Int}
theorem rMin_L2 (hn:n≤600) (e1:p0.lo.length=n) (e2:p0.hi.length=n) (e3:v2.lo.length=n) (e4:v2.hi.length=n) (l1:LO.length=n) (l2:HI.length=n)
  (hlo:∀ k,k < n→LO.getD k 0=if k < i then v2.lo.getD k 0 else p0.lo.getD k 0) (hhi:∀ k,k < n→HI.getD k 0=if k=i then v2.lo.getD k 0 else if k < i then v2.hi.getD k 0 else p0.hi.getD k 0):∀ (m k:Nat),k+m=n →
  ZI (p0,(i:Int),v2,out,p1,LO.take k,HI.take k,(k:Int))=some (LO,HI)
 | 0,k,h=>by
  rw [ZI]
  have:¬ ((k:Int) < (p0.lo.length:Int)):=by omega
  simp only [this,if_false];rw [List.take_of_length_le y5,List.take_of_length_le y5]
 | m+1,k,h=>by
  rw [ZI];have lt:((k:Int) < (p0.lo.length:Int)):=by omega
  have j1:idx p0.lo (k:Int)=some (p0.lo.getD k 0):=by rw [getD_el y5]; exact idx_ok y5
  have j2:idx p0.hi (k:Int)=some (p0.hi.getD k 0):=by rw [getD_el y5]; exact idx_ok y5
  have j3:idx v2.lo (k:Int)=some (v2.lo.getD k 0):=by rw [getD_el y5]; exact idx_ok y5
  have j4:idx v2.hi (k:Int)=some (v2.hi.getD k 0):=by rw [getD_el y5]; exact idx_ok y5
  have ih:=rMin_L2 hn e1 e2 e3 e4 l1 l2 hlo hhi m (k+1) y5;have hW:W ((k:Int)+1)=((k+1:Nat):Int):=W_nat y5;have q1:=hlo k y5;have q2:=hhi k y5
  have a1:∀ v,LO.getD k 0=v→app 8 (LO.take k) [v]=some (LO.take (k+1)):=fun v hv=>by
   rw [← take_step y5,← hv]; exact app_le y6 y5
  have a2:∀ v,HI.getD k 0=v→app 8 (HI.take k) [v]=some (HI.take (k+1)):=fun v hv=>by
   rw [← take_step y5,← hv]; exact app_le y6 y5
  simp only [lt,if_true,j1,j2,Qe];by_cases c:k < i
  ·have c1:(k:Int) < (i:Int):=by omega
   have c2:¬ (k:Int)=(i:Int):=by omega
   rw [if_pos c] at q1;rw [if_neg (show ¬ k=i by omega),if_pos c] at q2;simp only [c1,if_true,c2,if_false,j3,j4,Qe,j6,a1 _ q1,a2 _ q2,hW,ih]
  ·have c1:¬ (k:Int) < (i:Int):=by omega
   rw [if_neg c] at q1;by_cases c2:k=i
   ·have c3:(k:Int)=(i:Int):=by omega
    rw [if_pos c2] at q2;subst c2;simp only [c1,if_false,eq_self,if_true,j3,Qe,a1 _ q1,a2 _ q2,hW,ih]
   ·have c3:¬ (k:Int)=(i:Int):=by omega
    rw [if_neg c2,if_neg c] at q2;simp only [c1,c3,if_false,Qe,j6,a1 _ q1,a2 _ q2,hW,ih]
theorem rMin_L3 (hn:n≤600) (e1:p0.lo.length=n) (e2:p0.hi.length=n) (e3:v2.lo.length=n) (e4:v2.hi.length=n) (l1:LO.length=n) (l2:HI.length=n)
  (hlo:∀ k,k < n→LO.getD k 0=if k=i then v2.hi.getD k 0 else if k < i then v2.lo.getD k 0 else p0.lo.getD k 0) (hhi:∀ k,k < n→HI.getD k 0=if k < i then v2.hi.getD k 0 else p0.hi.getD k 0):∀ (m k:Nat),k+m=n →
  ZJ (p0,(i:Int),v2,out,p1,LO.take k,HI.take k,(k:Int))=some (LO,HI)
 | 0,k,h=>by
  rw [ZJ]
  have:¬ ((k:Int) < (p0.lo.length:Int)):=by omega
  simp only [this,if_false];rw [List.take_of_length_le y5,List.take_of_length_le y5]
 | m+1,k,h=>by
  rw [ZJ];have lt:((k:Int) < (p0.lo.length:Int)):=by omega
  have j1:idx p0.lo (k:Int)=some (p0.lo.getD k 0):=by rw [getD_el y5]; exact idx_ok y5
  have j2:idx p0.hi (k:Int)=some (p0.hi.getD k 0):=by rw [getD_el y5]; exact idx_ok y5
  have j3:idx v2.lo (k:Int)=some (v2.lo.getD k 0):=by rw [getD_el y5]; exact idx_ok y5
  have j4:idx v2.hi (k:Int)=some (v2.hi.getD k 0):=by rw [getD_el y5]; exact idx_ok y5
  have ih:=rMin_L3 hn e1 e2 e3 e4 l1 l2 hlo hhi m (k+1) y5;have hW:W ((k:Int)+1)=((k+1:Nat):Int):=W_nat y5;have q1:=hlo k y5;have q2:=hhi k y5
  have a1:∀ v,LO.getD k 0=v→app 8 (LO.take k) [v]=some (LO.take (k+1)):=fun v hv=>by
   rw [← take_step y5,← hv]; exact app_le y6 y5
  have a2:∀ v,HI.getD k 0=v→app 8 (HI.take k) [v]=some (HI.take (k+1)):=fun v hv=>by
   rw [← take_step y5,← hv]; exact app_le y6 y5
  simp only [lt,if_true,j1,j2,Qe];by_cases c:k < i
  ·have c1:(k:Int) < (i:Int):=by omega
   have c2:¬ (k:Int)=(i:Int):=by omega
   rw [if_pos c] at q2;rw [if_neg (show ¬ k=i by omega),if_pos c] at q1;simp only [c1,if_true,c2,if_false,j3,j4,Qe,j6,a1 _ q1,a2 _ q2,hW,ih]
  ·have c1:¬ (k:Int) < (i:Int):=by omega
   rw [if_neg c] at q2;by_cases c2:k=i
   ·have c3:(k:Int)=(i:Int):=by omega
    rw [if_pos c2] at q1;subst c2;simp only [c1,if_false,eq_self,if_true,j4,Qe,a1 _ q1,a2 _ q2,hW,ih]
   ·have c3:¬ (k:Int)=(i:Int):=by omega
    rw [if_neg c2,if_neg c] at q1;simp only [c1,c3,if_false,Qe,j6,a1 _ q1,a2 _ q2,hW,ih]
end
theorem mix1 {p q r:List Int} {x y:Int} {t u:List Int} (h:p.length=q.length) (k:Nat):(p++x::t).getD k 0=if k < q.length then (p++y::u).getD k 0 else (q++x::t).getD k 0:=by
 rw [getD_app,getD_app,getD_app,h];by_cases c:k < q.length
 ·simp only [c,if_true]
 ·simp only [c,if_false]
theorem mix2 {p q r:List Int} {x y z:Int} {t u v:List Int} (h:p.length=q.length) (hr:r.length=q.length) (k:Nat):(p++x::t).getD k 0=if k=q.length then (r++x::v).getD k 0 else if k < q.length then (p++y::u).getD k 0 else (q++z::t).getD k 0:=by
 rw [getD_app,getD_app,getD_app,getD_app,h,hr];by_cases c:k < q.length
 ·simp only [c,if_true,if_neg (show ¬ k=q.length by omega)]
 ·by_cases c2:k=q.length
  ·subst c2; simp
  ·simp only [c,if_false,if_neg c2];obtain ⟨j,hj⟩:∃ j,k - q.length=j+1:=⟨k - q.length - 1,by omega⟩;rw [hj]; rfl
theorem rMin_L1 (p1:Qi):∀ (al ah cl ch pal pah pcl pch:List Int) (out:List Qi),ah.length=al.length→cl.length=al.length→ch.length=al.length→pah.length=pal.length→pcl.length=pal.length→pch.length=pal.length→pal.length+al.length≤600→out.length≤2 * pal.length →
  ZH (⟨pal++al,pah++ah⟩,⟨pcl++cl,pch++ch⟩,p1,out,(pal.length:Int))=some (out++(((minusR al ah cl ch).map fun x=>(⟨pcl++x.1,pch++x.2⟩:QY)).filter fullX).map bkB)
 | [],[],[],[],pal,pah,pcl,pch,out,_,_,_,_,_,_,_,_=>by
  rw [ZH];simp only [Q4,if_false]; simp [minusR]
 | a::al,b::ah,c::cl,d::ch,pal,pah,pcl,pch,out,h1,h2,h3,h4,h5,h6,hl,ho=>by
  rw [ZH];have g1:ah.length=al.length:=by simpa using h1
  have g2:cl.length=al.length:=by simpa using h2
  have g3:ch.length=al.length:=by simpa using h3
  have hl':pal.length+(al.length+1)≤600:=by simpa using hl
  have e2:=fun out=>rMin_L2 (p0:=⟨pal++a::al,pah++b::ah⟩) (v2:=⟨pcl++c::cl,pch++d::ch⟩) (p1:=p1) (i:=pal.length) (n:=pal.length+(al.length+1)) (out:=out) (LO:=pcl++a::al) (HI:=pch++c::ah) hl' y7 y6 y6 y6 y6 y6
   (fun k _=>mix1 (r:=[]) h5 k) (fun k _=>by have:=mix2 (p:=pch) (q:=pah) (r:=pcl) (x:=c) (y:=d) (z:=b) (t:=ah) (u:=ch) (v:=cl) y5 y5 k; rw [h4] at this; exact this) (pal.length+(al.length+1)) 0 y5
  have e3:=fun out=>rMin_L3 (p0:=⟨pal++a::al,pah++b::ah⟩) (v2:=⟨pcl++c::cl,pch++d::ch⟩) (p1:=p1) (i:=pal.length) (n:=pal.length+(al.length+1)) (out:=out) (LO:=pcl++d::al) (HI:=pch++b::ah) hl' y7 y6 y6 y6 y6 y6
   (fun k _=>mix2 h5 h6 k) (fun k _=>by have:=mix1 (p:=pch) (q:=pah) (r:=[]) (x:=b) (y:=d) (t:=ah) (u:=ch) y5 k; rw [h4] at this; exact this) (pal.length+(al.length+1)) 0 y5
  simp only [List.take_zero,jJ] at e2 e3;have f2:=empty6_ok (lo:=pcl++a::al) (hi:=pch++c::ah) y6 y6;have f3:=empty6_ok (lo:=pcl++d::al) (hi:=pch++b::ah) y6 y6;have ih:=fun out (ho:out.length≤2 * (pal++[a]).length)=>rMin_L1 p1 al ah cl ch (pal++[a]) (pah++[b]) (pcl++[c]) (pch++[d]) out g1 g2 g3 (by simp [h4]) (by simp [h5]) (by simp [h6]) y6 ho
  simp only [← Qr] at ih
  have em:((minusR (a::al) (b::ah) (c::cl) (d::ch)).map fun x=>(⟨pcl++x.1,pch++x.2⟩:QY))=⟨pcl++a::al,pch++c::ah⟩::⟨pcl++d::al,pch++b::ah⟩::((minusR al ah cl ch).map fun x=>(⟨pcl++c::x.1,pch++d::x.2⟩:QY)):=by
   rw [minusR,zS,zS,zD]; rfl
  rw [em];simp only [QU,if_true,e2,Qe,f2];by_cases f1:fullB (pcl++a::al) (pch++c::ah)=true
  ·rw [List.filter_cons_of_pos (show fullX ⟨pcl++a::al,pch++c::ah⟩=true from f1)];simp only [f1,Bool.not_true,if_true];rw [app_le y6 y5,Qe,Qe];simp only [e3,Qe,f3];by_cases f4:fullB (pcl++d::al) (pch++b::ah)=true
   ·rw [List.filter_cons_of_pos (show fullX ⟨pcl++d::al,pch++b::ah⟩=true from f4)];simp only [f4,Bool.not_true,if_true];rw [app_le y6 y5,Qe,Qe,YF hl,ih _ y6];simp [bkB]
   ·rw [List.filter_cons_of_neg (show ¬ fullX ⟨pcl++d::al,pch++b::ah⟩=true from f4)];simp only [(Bool.not_eq_true _).mp f4,Bool.not_false,jO,if_false,Qe];rw [YF hl,ih _ y6];simp [bkB]
  ·rw [List.filter_cons_of_neg (show ¬ fullX ⟨pcl++a::al,pch++c::ah⟩=true from f1)];simp only [(Bool.not_eq_true _).mp f1,Bool.not_false,jO,if_false,Qe,e3,f3];by_cases f4:fullB (pcl++d::al) (pch++b::ah)=true
   ·rw [List.filter_cons_of_pos (show fullX ⟨pcl++d::al,pch++b::ah⟩=true from f4)];simp only [f4,Bool.not_true,if_true];rw [app_le y6 y5,Qe,Qe,YF hl,ih _ y6];simp [bkB]
   ·rw [List.filter_cons_of_neg (show ¬ fullX ⟨pcl++d::al,pch++b::ah⟩=true from f4)];simp only [(Bool.not_eq_true _).mp f4,Bool.not_false,jO,if_false,Qe];rw [YF hl,ih _ y6]
 | [],_::_,_,_,_,_,_,_,_,h,_,_,_,_,_,_,_=>by simp at h
 | [],_,_::_,_,_,_,_,_,_,_,h,_,_,_,_,_,_=>by simp at h
 | [],_,_,_::_,_,_,_,_,_,_,_,h,_,_,_,_,_=>by simp at h
 | _::_,[],_,_,_,_,_,_,_,h,_,_,_,_,_,_,_=>by simp at h
 | _::_,_,[],_,_,_,_,_,_,_,h,_,_,_,_,_,_=>by simp at h
 | _::_,_,_,[],_,_,_,_,_,_,_,h,_,_,_,_,_=>by simp at h
theorem full_whole6:∀ {s cl ch:List Int},wkB s cl ch→fullB cl ch=true→fullB (List.replicate s.length 0) s=true
 | [],[],[],_,_=>rfl
 | n::s,c::cl,d::ch,h,f=>by
  obtain ⟨⟨k1,k2,k3⟩,k4⟩:=h;rw [fullB,jE,zA] at f;rw [zE,List.replicate_succ,fullB,full_whole6 k4 f.2,decide_eq_true (show (0:Int) < n by omega)]; rfl
 | [],_::_,_,h,_=>by simp [wkB] at h
 | [],[],_::_,h,_=>by simp [wkB] at h
 | _::_,[],_,h,_=>by simp [wkB] at h
 | _::_,_::_,[],h,_=>by simp [wkB] at h
theorem rMinus_ok {s s0 st:List Int} (h0:∀ n∈s,0≤n) (hs:s.length≤600) (e0:s0.length=s.length) (hst:st.length=s.length) :
  Xh (⟨List.replicate s.length 0,s⟩,⟨rlo (List.replicate s.length 0) st,rhi s0 s st⟩)=some ((restB s (clo (List.replicate s.length 0) s st) (chi (List.replicate s.length 0) s0 s st)).map bkB):=by
 have hz:(List.replicate s.length (0:Int)).length=st.length:=by simp [hst]
 have hcw:=clip_wk (lo:=List.replicate s.length 0) (hi:=s0) (t:=s) (st:=st) hz hst.symm y5 h0;obtain ⟨w1,w2⟩:=win_box (lo:=List.replicate s.length 0) (hi:=s0) (t:=s) (st:=st) hz hst.symm y5 h0;obtain ⟨z1,z2⟩:=win_zip (lo:=List.replicate s.length 0) (hi:=s0) (s:=s) (st:=st) hz hst.symm y5;have r1:=rlo_len hz;have r2:=rhi_len (hi:=s0) (t:=s) (st:=st) y5 y5;have eE:=empty6_ok (lo:=List.replicate s.length 0) (hi:=s) y7 y6;have eI:=rInt_ok (a:=List.replicate s.length 0) (b:=s) (c:=rlo (List.replicate s.length 0) st) (d:=rhi s0 s st) y7 y6 y6 y6;rw [z1,z2] at eI;have hwk:fullB (clo (List.replicate s.length 0) s st) (chi (List.replicate s.length 0) s0 s st)=true→fullB (List.replicate s.length 0) s=true:=full_whole6 hcw;unfold restB;simp only [Xh,eE,Qe]
 by_cases f0:fullB (List.replicate s.length 0) s=true
 ·simp only [f0,Bool.not_true,j6,if_false,eI,Qe];by_cases f:fullB (rlo (List.replicate s.length 0) st) (rhi s0 s st)=true
  ·obtain ⟨q1,q2⟩:=w2 f;have f':=f;rw [w1] at f';simp only [f,f',if_true,Qe,jO,if_false];rw [q1,q2];have hc1:(clo (List.replicate s.length 0) s st).length=s.length:=by rw [← q1]; omega
   have hc2:(chi (List.replicate s.length 0) s0 s st).length=s.length:=by rw [← q2]; omega
   have e:=rMin_L1 ⟨clo (List.replicate s.length 0) s st,chi (List.replicate s.length 0) s0 s st⟩ (List.replicate s.length 0) s (clo (List.replicate s.length 0) s st) (chi (List.replicate s.length 0) s0 s st) [] [] [] [] [] y7 (by simpa using hc1) (by simpa using hc2) rfl rfl rfl y6 y7;simp only [jQ,jL,jJ] at e;simp only [e,Qe]
  ·have f':=f;rw [w1] at f';have hX:fullX ⟨List.replicate s.length 0,s⟩=true:=f0;simp only [f,f',if_false,Qe,j6,if_true,List.filter_cons_of_pos hX];rfl
 ·have f':¬ fullB (clo (List.replicate s.length 0) s st) (chi (List.replicate s.length 0) s0 s st)=true:=fun h=>f0 (hwk h)
  have hX:¬ fullX ⟨List.replicate s.length 0,s⟩=true:=f0;simp only [(Bool.not_eq_true _).mp f0,Bool.not_false,if_true,f',j6,if_false,List.filter_cons_of_neg hX];rfl
theorem rWin_L2 {r:Nat} (hr:r≤600) (p0:List Qb) (i:Int) (x:Qc) (hp:idx p0 i=some (bkP x)) (p1:List Int) (q:List Qb):∀ (st ts l h pst pts pl ph o1 o2:List Int) (a:Qn),wfA r a→x.box.lo=pl++l→x.box.hi=ph++h→ts.length=st.length→l.length=st.length→h.length=st.length→pts.length=pst.length→pl.length=pst.length→ph.length=pst.length→o1.length=pst.length→o2.length=pst.length→pst.length+st.length≤r →
  Zo (pts++ts,p0,i,pst++st,p1,q,(bkA a).kind,(bkA a).buffer,(bkA a).base,(bkA a).strides,(bkA a).start,(bkA a).step,(bkA a).mod,o1,o2,(pst.length:Int))=some ((bkA (shfs a pst.length st)).kind,(bkA (shfs a pst.length st)).buffer,(bkA (shfs a pst.length st)).base,(bkA (shfs a pst.length st)).strides,(bkA (shfs a pst.length st)).start,(bkA (shfs a pst.length st)).step,(bkA (shfs a pst.length st)).mod,o1++rlo l st,o2++rhi h ts st)
 | [],[],[],[],pst,pts,pl,ph,o1,o2,a,hw,e1,e2,h1,h2,h3,h4,h5,h6,h7,h8,hl=>by
  rw [Zo]
  have:¬ ((pst.length:Int) < ((pts++([]:List Int)).length:Int)):=by simp; omega
  rw [if_neg this,rlo,rhi,jU,jU]; rfl
  all_goals simp
 | n::st,t::ts,l::lo,h::hi,pst,pts,pl,ph,o1,o2,a,hw,e1,e2,h1,h2,h3,h4,h5,h6,h7,h8,hl=>by
  rw [Zo];have hlt:pst.length < r:=by simp at hl; omega
  have i0:((pst.length:Int) < ((pts++t::ts).length:Int)):=by simp; omega
  have i1:idx (bkP x).box.lo (pst.length:Int)=some l:=by show idx x.box.lo _=_; rw [e1,← h5]; exact Qy
  have i2:idx (bkP x).box.hi (pst.length:Int)=some h:=by show idx x.box.hi _=_; rw [e2,← h6]; exact Qy
  have i3:idx (pts++t::ts) (pst.length:Int)=some t:=by rw [← h4]; exact Qy
  have ih:=rWin_L2 hr p0 i x hp p1 q st ts lo hi (pst++[n]) (pts++[t]) (pl++[l]) (ph++[h]) (o1++[if W (l - n) < 0 then 0 else W (l - n)]) (o2++[if t < W (h - n) then t else W (h - n)]) (shfA a pst.length n) (shf_wf hw) (by rw [e1,Qr]) (by rw [e2,Qr]) (by simpa using h1) (by simpa using h2) (by simpa using h3) (by simp [h4]) (by simp [h5]) (by simp [h6]) (by simp [h7]) (by simp [h8]) (by simp at hl ⊢; omega);rw [← Qr,← Qr] at ih;have e:Zu (⟨(bkA a).kind,(bkA a).buffer,(bkA a).base,(bkA a).strides,(bkA a).start,(bkA a).step,(bkA a).mod⟩,(pst.length:Int),n)=some (bkA (shfA a pst.length n)):=rshf_ok n hw hlt;have a1:app 8 o1 [if W (l - n) < 0 then 0 else W (l - n)]=some (o1++[if W (l - n) < 0 then 0 else W (l - n)]):=app_le y6 y5
  have a2:app 8 o2 [if t < W (h - n) then t else W (h - n)]=some (o2++[if t < W (h - n) then t else W (h - n)]):=app_le y6 y5;have hW:W ((pst.length:Int)+1)=((pst++[n]).length:Int):=W_len y5;simp only [i0,if_true,hp,i1,i2,i3,Qy,Qe,a1,a2,e,hW,ih,shfs,rlo,rhi];simp
 | [],_::_,_,_,_,_,_,_,_,_,_,_,_,_,h,_,_,_,_,_,_,_,_=>by simp at h
 | [],_,_::_,_,_,_,_,_,_,_,_,_,_,_,_,h,_,_,_,_,_,_,_=>by simp at h
 | [],_,_,_::_,_,_,_,_,_,_,_,_,_,_,_,_,h,_,_,_,_,_,_=>by simp at h
 | _::_,[],_,_,_,_,_,_,_,_,_,_,_,_,h,_,_,_,_,_,_,_,_=>by simp at h
 | _::_,_,[],_,_,_,_,_,_,_,_,_,_,_,_,h,_,_,_,_,_,_,_=>by simp at h
 | _::_,_,_,[],_,_,_,_,_,_,_,_,_,_,_,_,h,_,_,_,_,_,_=>by simp at h
theorem rWin_L3 (q:List Qb):∀ (st ts h pst pts ph o1 o2:List Int),ts.length=st.length→h.length=st.length→pts.length=pst.length→ph.length=pst.length→o1.length=pst.length→o2.length=pst.length→pst.length+st.length≤600 →
  ZA (pts++ts,pst++st,ph++h,q,o1,o2,(pst.length:Int))=some (o1++rlo (List.replicate st.length 0) st,o2++rhi h ts st)
 | [],[],[],pst,pts,ph,o1,o2,h1,h2,h3,h4,h5,h6,hl=>by
  rw [ZA]
  have:¬ ((pst.length:Int) < ((pts++([]:List Int)).length:Int)):=by simp; omega
  rw [if_neg this];simp [rlo,rhi]
 | n::st,t::ts,h::hi,pst,pts,ph,o1,o2,h1,h2,h3,h4,h5,h6,hl=>by
  rw [ZA];have hlt:pst.length < 600:=by simp at hl; omega
  have i0:((pst.length:Int) < ((pts++t::ts).length:Int)):=by simp; omega
  have i2:idx (ph++h::hi) (pst.length:Int)=some h:=by rw [← h4]; exact Qy
  have i3:idx (pts++t::ts) (pst.length:Int)=some t:=by rw [← h3]; exact Qy
  have ih:=rWin_L3 q st ts hi (pst++[n]) (pts++[t]) (ph++[h]) (o1++[if W (0 - n) < 0 then 0 else W (0 - n)]) (o2++[if t < W (h - n) then t else W (h - n)]) (by simpa using h1) (by simpa using h2) (by simp [h3]) (by simp [h4]) (by simp [h5]) (by simp [h6]) (by simp at hl ⊢; omega);rw [← Qr,← Qr,← Qr] at ih;have a1:app 8 o1 [if W (0 - n) < 0 then 0 else W (0 - n)]=some (o1++[if W (0 - n) < 0 then 0 else W (0 - n)]):=app_le y6 y5;have a2:app 8 o2 [if t < W (h - n) then t else W (h - n)]=some (o2++[if t < W (h - n) then t else W (h - n)]):=app_le y6 y5;have hW:W ((pst.length:Int)+1)=((pst++[n]).length:Int):=W_len y5;simp only [i0,if_true,i2,i3,Qy,Qe,a1,a2,hW,ih,rlo,rhi,zE,List.replicate_succ];simp
 | [],_::_,_,_,_,_,_,_,h,_,_,_,_,_,_=>by simp at h
 | [],_,_::_,_,_,_,_,_,_,h,_,_,_,_,_=>by simp at h
 | _::_,[],_,_,_,_,_,_,h,_,_,_,_,_,_=>by simp at h
 | _::_,_,[],_,_,_,_,_,_,h,_,_,_,_,_=>by simp at h
section
variable {P:Qc→Prop} {s s0 st:List Int}
theorem rWin_L1 (hs:s.length≤600) (hn:∀ n∈s,0≤n) (e0:s0.length=s.length) (hst:st.length=s.length) (p1:List Int):∀ (l p out:List Qc),p.length+l.length≤50000→out.length≤p.length→(∀ z∈out,z.box.lo.length=s.length)→(∀ x∈l,wkB s0 x.box.lo x.box.hi∧wfA s0.length x.access) →
  Zn ((p++l).map bkP,s,st,p1,out.map bkP,(p.length:Int))=some (((l.map (winP s st)).foldl putT out).map bkP)
 | [],p,out,h,ho,hz,hw=>by
  rw [Zn]
  have:¬ ((p.length:Int) < (((p++[]).map bkP).length:Int)):=by simp
  simp only [this,if_false]; rfl
 | x::l,p,out,h,ho,hz,hw=>by
  rw [Zn];obtain ⟨hb,ha⟩:=hw x (jM ..);obtain ⟨l1,l2⟩:=wk_len hb;have h1:((p.length:Int) < (((p++x::l).map bkP).length:Int)):=by simp; omega
  have h2:idx ((p++x::l).map bkP) (p.length:Int)=some (bkP x):=idx_of y7;have hck:=clip_wk (lo:=x.box.lo) (hi:=x.box.hi) (t:=s) (st:=st) y5 y5 y5 hn;have hxl:(winP s st x).box.lo.length=s.length:=(wk_len hck).1;have hpp:p.length≤50000:=by simp at h; omega
  have ih:=rWin_L1 hs hn e0 hst p1 l (p++[x]) (putT out (winP s st x)) (by simp at h ⊢; omega) (by have:=put_len out (winP s st x); simp; omega) (put_lo hz hxl) (fun y hy=>hw y (jG _ hy));rw [← Qr] at ih;have hW:W ((p.length:Int)+1)=((p++[x]).length:Int):=W_len y5;have e2:=rWin_L2 (r:=s0.length) y5 ((p++x::l).map bkP) (p.length:Int) x h2 p1 (out.map bkP) st s x.box.lo x.box.hi [] [] [] [] [] [] x.access ha rfl rfl y5 y5 y5 rfl rfl rfl rfl rfl y6;simp only [jQ,jL,jJ] at e2;obtain ⟨w1,w2⟩:=win_box (lo:=x.box.lo) (hi:=x.box.hi) (t:=s) (st:=st) y5 y5 y5 hn
  have ep:QJ (out.map bkP,⟨⟨rlo x.box.lo st,rhi x.box.hi s st⟩,bkA (shfs x.access 0 st)⟩)=some ((putT out (winP s st x)).map bkP):=by
   refine put_ok (n:=s.length) hs y5 hz ⟨?_,?_⟩ w1 fun hf=>?_
   ·show (rlo x.box.lo st).length=_; rw [rlo_len y5]; omega
   ·show (rhi x.box.hi s st).length=_; rw [rhi_len y5 y5]; omega
   ·have hf':fullB (clo x.box.lo s st) (chi x.box.lo x.box.hi s st)=true:=hf;rw [← w1] at hf';obtain ⟨q1,q2⟩:=w2 hf';rw [q1,q2]; rfl
  have ep':QJ (out.map bkP,⟨⟨rlo x.box.lo st,rhi x.box.hi s st⟩,⟨(bkA (shfs x.access 0 st)).kind,(bkA (shfs x.access 0 st)).buffer,(bkA (shfs x.access 0 st)).base,(bkA (shfs x.access 0 st)).strides,(bkA (shfs x.access 0 st)).start,(bkA (shfs x.access 0 st)).step,(bkA (shfs x.access 0 st)).mod⟩⟩)=some ((putT out (winP s st x)).map bkP):=ep;have e2':Zo (s,(p++x::l).map bkP,(p.length:Int),st,p1,out.map bkP,(bkP x).access.kind,(bkP x).access.buffer,(bkP x).access.base,(bkP x).access.strides,(bkP x).access.start,(bkP x).access.step,(bkP x).access.mod,[],[],0)=_:=e2;simp only [h1,if_true,h2,Qe,e2',ep',hW,ih,zS,List.foldl_cons]
theorem rWin_L4 (hs:s.length≤600) (v1 v2:List Int):∀ (l p:List QY) (out:List Qc),p.length+l.length≤20000→out.length≤p.length+30000→(∀ z∈out,z.box.lo.length=s.length)→(∀ b∈l,wkB s b.lo b.hi) →
  ZB ((p++l).map bkB,v1,v2,out.map bkP,(p.length:Int))=some (((l.map fillB).foldl putT out).map bkP)
 | [],p,out,h,ho,hz,hw=>by
  rw [ZB]
  have:¬ ((p.length:Int) < (((p++[]).map bkB).length:Int)):=by simp
  simp only [this,if_false]; rfl
 | b::l,p,out,h,ho,hz,hw=>by
  rw [ZB];obtain ⟨l1,l2⟩:=wk_len (hw b (jM ..));have h1:((p.length:Int) < (((p++b::l).map bkB).length:Int)):=by simp; omega
  have h2:idx ((p++b::l).map bkB) (p.length:Int)=some (bkB b):=idx_of y7;have hpp:p.length≤20000:=by simp at h; omega
  have hxl:(fillB b).box.lo.length=s.length:=l1;have ih:=rWin_L4 hs v1 v2 l (p++[b]) (putT out (fillB b)) (by simp at h ⊢; omega) (by have:=put_len out (fillB b); simp; omega) (put_lo hz hxl) (fun y hy=>hw y (jG _ hy));rw [← Qr] at ih;have hW:W ((p.length:Int)+1)=((p++[b]).length:Int):=W_len y5;have ep:QJ (out.map bkP,⟨bkB b,⟨1,0,0,[],0,0,0⟩⟩)=some ((putT out (fillB b)).map bkP):=put_ok (x:=fillB b) (n:=s.length) hs y5 hz ⟨l1,l2⟩ rfl fun _=>rfl
  simp only [h1,if_true,h2,Qe,ep,hW,ih,zS,List.foldl_cons]
theorem fold_put_len {l out:List Qc}:(l.foldl putT out).length≤l.length+out.length:=by
 rw [(put_fold_perm l out).length_eq,jV];have:=List.length_filter_le fullP l;omega
theorem fold_put_lo {l out:List Qc} {n:Nat} (h1:∀ z∈l,z.box.lo.length=n) (h2:∀ z∈out,z.box.lo.length=n):∀ z∈l.foldl putT out,z.box.lo.length=n:=fun z hz=>by
 rcases List.mem_append.1 ((put_fold_perm l out).mem_iff.1 hz) with h|h
 ·exact h1 z (List.mem_filter.1 h).1
 ·exact h2 z h
theorem rWin_ok {l:List Qc} {Q:Qc→Prop} (h:Inv P s0 l) (hc0:checkR s0=0) (hP0:prodI s0≤20000) (hc:checkR s=0) (e0:s0.length=s.length) (hst:st.length=s.length) (hp:Pre Q s (winL s0 s st l)) :
  YY (l.map bkP,s0,s,st)=some ((sortT ((winL s0 s st l).filter fullP)).map bkP):=by
 obtain ⟨h1,h2,h3⟩:=checkR_ok hc;have hll:=h.len4 hc0 hP0;have hn:∀ n∈s,0≤n:=fun n hn=>(h3 n hn).1
 have e1:=rWin_L1 (s:=s) (s0:=s0) (st:=st) y5 hn e0 hst s0 l [] [] (by simpa using by omega) y7 (fun z hz=>by simp at hz) (fun x hx=>⟨h.wk x hx,h.acc x hx⟩);have e1':Zn (l.map bkP,s,st,s0,[],0)=some (((l.map (winP s st)).foldl putT []).map bkP):=e1;have e3:=rWin_L3 (((l.map (winP s st)).foldl putT []).map bkP) st s s0 [] [] [] [] [] y5 y5 rfl rfl rfl rfl y6;simp only [jQ,jL,jJ,hst] at e3;have ew:Z8 s=some ⟨List.replicate s.length 0,s⟩:=by simp only [Z8,mkN_ok (show s.length≤600 by omega),Qe]
 have eM:=rMinus_ok (s:=s) (s0:=s0) (st:=st) hn y5 e0 hst;have hcw:=clip_wk (lo:=List.replicate s.length 0) (hi:=s0) (t:=s) (st:=st) (by simp [hst]) hst.symm y5 hn;have hrl:=rest_len s (clo (List.replicate s.length 0) s st) (chi (List.replicate s.length 0) s0 s st)
 have e4:=rWin_L4 (s:=s) y5 (rlo (List.replicate s.length 0) st) (rhi s0 s st) (restB s (clo (List.replicate s.length 0) s st) (chi (List.replicate s.length 0) s0 s st)) [] ((l.map (winP s st)).foldl putT []) y6 (by have:=fold_put_len (l:=l.map (winP s st)) (out:=[]); simp at this ⊢; omega)
  (fold_put_lo (fun z hz=>by
   obtain ⟨x,hx,rfl⟩:=List.mem_map.1 hz;obtain ⟨l1,l2⟩:=wk_len (h.wk x hx);exact (wk_len (clip_wk (lo:=x.box.lo) (hi:=x.box.hi) (t:=s) (st:=st) y5 y5 y5 hn)).1) (fun z hz=>by simp at hz)) (rest_wk hn hcw)
 simp only [jQ,jL,jJ] at e4;have hf:=put_fold hp.dist;unfold winL at hf ⊢;rw [List.foldl_append] at hf;simp only [YY,e1',Qe,e3,ew,eM,e4,hf]
end
-- Plain laws: small shapes, strides, indices in order.
theorem all_L3 (p:List Int) (i:Nat) (n:Int) (hi:idx p (i:Int)=some n) (out:List (List Int)) (k:Nat) (a:List Int) (hk:idx out (k:Int)=some a) (ha:a.length≤1000) (base:List (List Int)) :
  ∀ (m j:Nat),j+m=n.toNat→base.length+n.toNat≤1000000→Z0 (p,(i:Int),out,(k:Int),base++((List.range j).map fun (x:Nat)=>a++[(x:Int)]),(j:Int))=some (base++rowI n a)
 | 0,j,h1,h2=>by
  rw [Z0]
  have:¬ ((j:Int) < n):=by omega
  simp only [hi,Qe,this,if_false];rw [rowI,← h1]; rfl
 | m+1,j,h1,h2=>by
  rw [Z0];have ht:((j:Int) < n):=by omega
  have ih:=all_L3 p i n hi out k a hk ha base m (j+1) y5 h2;have w:W ((j:Int)+1)=((j+1:Nat):Int):=W_succ y5;have a1:app 8 ([]:List Int) a=some a:=by rw [app_le y6 y5]; rfl
  have a2:app 8 a [(j:Int)]=some (a++[(j:Int)]):=app_le y6 y5
  have a3:app 24 (base++((List.range j).map fun (x:Nat)=>a++[(x:Int)])) [a++[(j:Int)]]=some (base++((List.range (j+1)).map fun (x:Nat)=>a++[(x:Int)])):=by
   rw [app_le y6 y5,List.range_succ]; simp
  simp only [hi,Qe,ht,if_true,hk,a1,a2,a3,w,ih]
theorem all_L2 (p:List Int) (i:Nat) (n:Int) (hi:idx p (i:Int)=some n):∀ (s q:List (List Int)),(∀ a∈s,a.length≤1000)→((q++s).length+1) * (max n.toNat 1)≤1000000 →
  ZO (q++s,p,(i:Int),extI q n,(q.length:Int))=some (extI (q++s) n)
 | [],q,h1,h2=>by
  rw [ZO]; simp only [jU,Int.lt_irrefl,if_false]
 | a::s,q,h1,h2=>by
  rw [ZO];have hm:(q++a::s).length+1≤1000000:=jW (Nat.le_mul_of_pos_right _ y5) h2
  have hb:(extI q n).length+n.toNat≤1000000:=by
   rw [extI_len];have e1:q.length * n.toNat+n.toNat=(q.length+1) * n.toNat:=by rw [Nat.add_mul,Nat.one_mul]
   rw [e1];refine jW (Nat.mul_le_mul ?_ ?_) h2
   ·simp
   ·omega
  have e:=all_L3 p i n hi (q++a::s) q.length a Qy (h1 a (jM ..)) (extI q n) n.toNat 0 y5 hb;have ih:=all_L2 p i n hi s (q++[a]) (fun x hx=>h1 x (jG _ hx)) (by rw [← Qr]; exact h2);rw [← Qr] at ih;simp only [List.range_zero,List.map_nil,jU,jJ] at e;have ee:extI (q++[a]) n=extI q n++rowI n a:=by unfold extI; rw [List.flatMap_append]; simp
  simp only [QU,if_true,e,Qe,mid_W (Sm_of (show (q++a::s).length≤1000000 by omega)),← ee,ih]
theorem all_L1:∀ (s p:List Int) (out:List (List Int)),(p++s).length≤900→(∀ a∈out,a.length=p.length)→(out.length+1) * pm s≤500000→ZN (p++s,out,(p.length:Int))=some (s.foldl extI out)
 | [],p,out,hs,h1,h2=>by
  rw [ZN]; simp only [Q4,if_false,List.foldl_nil]
 | n::s,p,out,hs,h1,h2=>by
  rw [ZN];have hp:=pm_pos s;rw [pm,← Nat.mul_assoc] at h2;have b1:(out.length+1) * max n.toNat 1≤500000:=jW (Nat.le_mul_of_pos_right _ hp) h2;have e:ZO (out,p++n::s,(p.length:Int),[],0)=some (extI out n):=all_L2 (p++n::s) p.length n Qy out [] (fun a ha=>by have:=h1 a ha; simp at hs; omega) (jW b1 y5)
  have ih:=all_L1 s (p++[n]) (extI out n) (by rw [← Qr]; exact hs) (fun a ha=>by rw [mem_ext_len h1 a ha]; simp) (by
   refine jW (Nat.mul_le_mul_right _ ?_) h2;rw [extI_len,Nat.add_mul,Nat.one_mul];have:=Nat.mul_le_mul_left out.length (show n.toNat≤max n.toNat 1 by omega);omega)
  rw [← Qr] at ih;simp only [QU,if_true,e,Qe,mid_W (Sm_of hs),ih,List.foldl_cons]
theorem All_ok {s:List Int} (hs:s.length≤900) (h:pm s≤250000):ZG s=some (allL s):=by
 have e:ZN (s,[[]],0)=some (s.foldl extI [[]]):=all_L1 s [] [[]] hs y7 (by simpa using by omega);simp only [ZG,e,Qe,allI_eq]

theorem small_All {m:Int} {s:List Int} (h:smallS m s) (hm:1≤m∧m≤2500):ZG s=some (allL s):=All_ok (by have:=h.1; omega) (by have:=small_pm h hm.1; omega)

theorem rDot_L1:∀ (s t p q:List Int) (x:Int),p.length=q.length→(p++s).length≤1000→(q++t).length≤1000→ZP (p++s,q++t,x,(p.length:Int))=some (dotF s t x)
 | [],t,p,q,x,h,h1,h2=>by
  rw [ZP];simp only [Q4,if_false,Qe,j6,dotF]
 | a::s,[],p,q,x,h,h1,h2=>by
  rw [ZP]
  have:¬ ((p.length:Int) < ((q++([]:List Int)).length:Int)):=by simp; omega
  simp only [QU,if_true,this,zY,Qe,j6,if_false,dotF]
 | a::s,b::t,p,q,x,h,h1,h2=>by
  rw [ZP];have e1:((p.length:Int) < ((q++b::t).length:Int)):=by simp; omega
  have e2:idx (q++b::t) (p.length:Int)=some b:=by rw [h]; exact Qy
  have e:=rDot_L1 s t (p++[a]) (q++[b]) (W (x+W (a * b))) (by simp [h]) (by simpa using h1) (by simpa using h2);rw [← Qr,← Qr] at e;have w:W ((p.length:Int)+1)=((p++[a]).length:Int):=mid_W (Sm_of h1);simp only [QU,if_true,e1,decide_true,Qe,Qy,e2,w,e,dotF]
theorem rDot_ok {a b:List Int} (h1:a.length≤1000) (h2:b.length≤1000):Xx (a,b)=some (dotF a b 0):=by
 have e:=rDot_L1 a b [] [] 0 rfl (by simpa using h1) (by simpa using h2);simp only [jQ,jL,jJ] at e;unfold Xx;simp only [e,Qe]
-- Plain laws: runs of origins, of the program and of the reference.
def cellR (c:Qg):Prop:=(0≤c.buffer∧c.buffer≤100000)∧(0≤c.offset∧c.offset≤100000)∧(c.fill=true→c.buffer=0∧c.offset=0)
def ce (l:List Qg) (i:Nat):Qg:=l.getD i ⟨false,0,0⟩
def stp (l:List Qg) (a:Nat):Int:=if a+1 < l.length∧(ce l a).fill=false∧(ce l (a+1)).fill=false∧(ce l (a+1)).buffer=(ce l a).buffer then (ce l (a+1)).offset - (ce l a).offset else 0
def cellK (c:Qg) (st:Int) (k:Nat):Qg:=if c.fill=true then ⟨true,0,0⟩ else ⟨false,c.buffer,c.offset+k * st⟩
def sameC (a b:Qg):Bool:=a.fill == b.fill && (a.buffer == b.buffer && a.offset == b.offset)
theorem sameC_iff {a b:Qg}:sameC a b=true↔a=b:=by
 obtain ⟨f,x,y⟩:=a;obtain ⟨g,z,w⟩:=b;simp [sameC]
def mtc (l:List Qg) (a k:Nat):Bool:=sameC (ce l (a+k)) (cellK (ce l a) (stp l a) k)
def ext (l:List Qg) (a:Nat):Nat→Nat→Nat
 | 0,n=>n
 | f+1,n=>if mtc l a n=true then ext l a f (n+1) else n
def runN (l:List Qg) (a:Nat):Nat:=ext l a (l.length - (a+1)) 1
def runR (l:List Qg) (a:Nat):Qk:=⟨a,runN l a,(ce l a).fill,(ce l a).buffer,(ce l a).offset,stp l a⟩
def ofF (l:List Qg):Nat→Nat→List Qk
 | 0,_=>[]
 | f+1,a=>if a < l.length then runR l a::ofF l f (a+runN l a) else []
theorem ext_ge (l:List Qg) (a:Nat):∀ f n,n≤ext l a f n∧ext l a f n≤n+f
 | 0,n=>⟨j7 _,j7 _⟩
 | f+1,n=>by
  rw [ext];split
  ·have:=ext_ge l a f (n+1); omega
  ·omega
theorem ext_all (l:List Qg) (a:Nat):∀ f n k,n≤k→k < ext l a f n→mtc l a k=true
 | 0,n,k,h1,h2=>by rw [ext] at h2; omega
 | f+1,n,k,h1,h2=>by
  rw [ext] at h2;split at h2
  ·rename_i h;by_cases e:n=k
   ·subst e; exact h
   ·exact ext_all l a f (n+1) k y5 h2
  ·omega
theorem runN_le {l:List Qg} {a:Nat} (h:a < l.length):1≤runN l a∧a+runN l a≤l.length:=by
 have:=ext_ge l a (l.length - (a+1)) 1;unfold runN;omega
theorem ce_idx {l:List Qg} {i:Nat} (h:i < l.length):idx l (i:Int)=some (ce l i):=by
 rw [idx_ok h]; simp [ce,h]
theorem ce_mem {l:List Qg} {i:Nat} (h:i < l.length):ce l i∈l:=by simp [ce,h]
theorem stp_b {l:List Qg} (hc:∀ c∈l,cellR c) (a:Nat) (ha:a < l.length):-100000≤stp l a∧stp l a≤100000:=by
 unfold stp;split
 ·rename_i h;have h1:=(hc _ (ce_mem ha)).2.1;have h2:=(hc _ (ce_mem h.1)).2.1;omega
 ·omega
theorem mul_b {a b A B:Int} (h1:-A≤a) (h2:a≤A) (h3:-B≤b) (h4:b≤B):-(A * B)≤a * b∧a * b≤A * B:=by
 have hA:0≤A:=by omega
 have hB:0≤B:=by omega
 have e1:0≤(A - a) * (B+b):=Int.mul_nonneg y5 y5;have e2:0≤(A+a) * (B - b):=Int.mul_nonneg y5 y5;have e3:0≤(A - a) * (B - b):=Int.mul_nonneg y5 y5;have e4:0≤(A+a) * (B+b):=Int.mul_nonneg y5 y5;simp only [Int.sub_mul,Int.add_mul,Int.mul_sub,Int.mul_add] at e1 e2 e3 e4;constructor <;> omega
def ofR (l:List Qg):List Qk:=ofF l l.length 0
def cnd (q:List Qg) (j:Nat):Prop:=(ce q j).fill=(ce q 0).fill∧(ce q j).buffer=(ce q 0).buffer∧(ce q j).offset - (ce q (j - 1)).offset=(ce q 1).offset - (ce q 0).offset
theorem uni_L1 {q:List Qg} (hq:q.length≤600) (hc:∀ c∈q,cellR c):∀ (f i:Nat),1≤i→i+f=q.length→∃ r,Za (q,(i:Int))=some r∧(r=.inr ()↔∀ j,i≤j→j < q.length→cnd q j)
 | 0,i,h1,h2=>by
  rw [Za]
  have:¬ ((i:Int) < (q.length:Int)):=by omega
  simp only [this,if_false];exact ⟨_,rfl,by simp; intro j a b; omega⟩
 | f+1,i,h1,h2=>by
  rw [Za];have hlt:(i:Int) < (q.length:Int):=by omega
  obtain ⟨r,e,hr⟩:=uni_L1 hq hc f (i+1) y5 y5;have i0:idx q 0=some (ce q 0):=ce_idx (i:=0) y5;have i1:idx q 1=some (ce q 1):=ce_idx (i:=1) y5;have ii:idx q (i:Int)=some (ce q i):=ce_idx y5;have hWm:W ((i:Int) - 1)=((i - 1:Nat):Int):=by rw [W_in y5 y5]; omega
  have im:idx q ((i - 1:Nat):Int)=some (ce q (i - 1)):=ce_idx y5;have b0:=(hc _ (ce_mem (i:=0) (l:=q) y5)).2.1;have b1:=(hc _ (ce_mem (i:=1) (l:=q) y5)).2.1;have bi:=(hc _ (ce_mem (i:=i) (l:=q) y5)).2.1;have bm:=(hc _ (ce_mem (i:=i - 1) (l:=q) y5)).2.1;have w1:W ((ce q i).offset - (ce q (i - 1)).offset)=(ce q i).offset - (ce q (i - 1)).offset:=W_in y5 y5;have w2:W ((ce q 1).offset - (ce q 0).offset)=(ce q 1).offset - (ce q 0).offset:=W_in y5 y5;simp only [hlt,if_true,ii,i0,i1,hWm,im,Qe,w1,w2,W_nat (show i≤1000000 by omega),e]
  have key:(∀ j,i≤j→j < q.length→cnd q j)↔cnd q i∧∀ j,i+1≤j→j < q.length→cnd q j:=by
   constructor
   ·exact fun h=>⟨h i (j7 _) y5,fun j a b=>h j y5 b⟩
   ·rintro ⟨h3,h4⟩ j a b
    by_cases e:i=j
    ·subst e; exact h3
    ·exact h4 j y5 b
  rw [key];by_cases c1:(ce q i).fill=(ce q 0).fill
  ·by_cases c2:(ce q i).buffer=(ce q 0).buffer
   ·by_cases c3:(ce q i).offset - (ce q (i - 1)).offset=(ce q 1).offset - (ce q 0).offset
    ·have hcn:cnd q i:=⟨c1,c2,c3⟩;simp only [c1,c2,c3,bne_self_eq_false,j6,if_false,Qe];exact ⟨r,rfl,by simp [hr,hcn]⟩
    ·have hcn:¬ cnd q i:=fun h=>c3 h.2.2
     simp [c1,c2,c3,hcn]
   ·have hcn:¬ cnd q i:=fun h=>c2 h.2.1
    simp [c1,c2,hcn]
  ·have hcn:¬ cnd q i:=fun h=>c1 h.1
   have:((ce q i).fill != (ce q 0).fill)=true:=by simp [c1]
   simp [this,hcn]
theorem ce_sub {l:List Qg} {a m j:Nat} (h:j < m) (h2:a+m≤l.length):ce ((l.drop a).take m) j=ce l (a+j):=by
 simp [ce,jB,jR,h]
theorem cellK_step {c:Qg} {st:Int} (hf:c.fill=false) (k:Nat):cellK c st k=⟨false,c.buffer,c.offset+k * st⟩:=by simp [cellK,hf]
theorem uni_mtc {l:List Qg} (hc:∀ c∈l,cellR c) {a n:Nat} (hn:1≤n) (h:a+n < l.length) (hprev:∀ k,1≤k→k < n→mtc l a k=true) :
  (∀ j,1≤j→j < n+1→cnd ((l.drop a).take (n+1)) j)↔mtc l a n=true:=by
 have hce:∀ j,j≤n→ce ((l.drop a).take (n+1)) j=ce l (a+j):=fun j hj=>ce_sub y5 y5
 have hz:∀ j,j≤n→(ce l (a+j)).fill=true→ce l (a+j)=⟨true,0,0⟩:=fun j hj hf=>by
  have:=(hc _ (ce_mem (l:=l) (i:=a+j) y5)).2.2 hf;generalize ce l (a+j)=x at hf this;obtain ⟨f,b,o⟩:=x;simp at hf this;simp [hf,this]
 have hm:∀ j,mtc l a j=true↔ce l (a+j)=cellK (ce l a) (stp l a) j:=fun j=>sameC_iff
 by_cases hf:(ce l a).fill=true
 ·have h1:∀ j,mtc l a j=true↔ce l (a+j)=⟨true,0,0⟩:=fun j=>by rw [hm,cellK,if_pos hf]
  have ha0:=hz 0 y5 hf;rw [zV a] at ha0;rw [h1];constructor
  ·intro H;have:=(H n hn y5).1;rw [hce n (j7 _),hce 0 y5,zV a,hf] at this;exact hz n (j7 _) this
  ·intro H j j1 j2
   have e:∀ k,k≤n→ce l (a+k)=⟨true,0,0⟩:=fun k hk=>by
    by_cases k0:k=0
    ·subst k0; exact ha0
    ·by_cases kn:k=n
     ·subst kn; exact H
     ·exact (h1 k).1 (hprev k y5 y5)
   unfold cnd;rw [hce j y5,hce 0 y5,hce (j - 1) y5,hce 1 y5,e j y5,e 0 y5,e (j - 1) y5,e 1 y5];exact ⟨rfl,rfl,rfl⟩
 ·have hf':(ce l a).fill=false:=by simpa using hf
  have h1:∀ j,mtc l a j=true↔ce l (a+j)=⟨false,(ce l a).buffer,(ce l a).offset+j * stp l a⟩:=fun j=>by rw [hm,cellK_step hf']
  constructor
  ·intro H;obtain ⟨p1,p2,_⟩:=H 1 (j7 _) y5;rw [hce 1 y5,hce 0 y5,zV a] at p1 p2
   have hst:stp l a=(ce l (a+1)).offset - (ce l a).offset:=by
    unfold stp; rw [if_pos ⟨by omega,hf',by rw [p1,hf'],p2⟩]
   obtain ⟨q1,q2,q3⟩:=H n hn y5;rw [hce n (j7 _),hce 0 y5,zV a] at q1 q2;rw [hce n (j7 _),hce 0 y5,hce (n - 1) y5,hce 1 y5,zV a,← hst] at q3;rw [h1]
   have hprevo:(ce l (a+(n - 1))).offset=(ce l a).offset+((n - 1:Nat):Int) * stp l a:=by
    by_cases n1:n=1
    ·subst n1; simp
    ·have:=(h1 (n - 1)).1 (hprev (n - 1) y5 y5);rw [this]
   have ho:(ce l (a+n)).offset=(ce l a).offset+(n:Int) * stp l a:=by
    have e1:((n:Nat):Int)=((n - 1:Nat):Int)+1:=by omega
    rw [e1,Int.add_mul,Int.one_mul];omega
   generalize hx:ce l (a+n)=x at q1 q2 ho;obtain ⟨f,b,o⟩:=x;simp at q1 q2 ho;simp [q1,hf',q2,ho]
  ·intro H j j1 j2
   have e:∀ k,k≤n→ce l (a+k)=⟨false,(ce l a).buffer,(ce l a).offset+k * stp l a⟩:=fun k hk=>by
    by_cases k0:k=0
    ·subst k0
     have:ce l (a+0)=ce l a:=rfl
     rw [this];generalize ce l a=x at hf';obtain ⟨f,b,o⟩:=x;simp at hf';simp [hf']
    ·by_cases kn:k=n
     ·subst kn; exact (h1 k).1 H
     ·exact (h1 k).1 (hprev k y5 y5)
   unfold cnd;rw [hce j y5,hce 0 y5,hce (j - 1) y5,hce 1 y5,e j y5,e 0 y5,e (j - 1) y5,e 1 y5];refine ⟨rfl,rfl,?_⟩;simp only;have e1:((j:Nat):Int)=((j - 1:Nat):Int)+1:=by omega
   rw [e1,Int.add_mul];simp;omega
theorem rOf_L2 {l:List Qg} (hl:l.length≤600) (hc:∀ c∈l,cellR c) {a:Nat} (ha:a < l.length) (out:List Qk) :
  ∀ (f n:Nat),1≤n→a+n+f=l.length→(∀ k,1≤k→k < n→mtc l a k=true)→ZX ((a:Int),l,out,(n:Int))=some ((ext l a f n:Nat):Int)
 | 0,n,h1,h2,hp=>by
  rw [ZX];have hW:W ((a:Int)+n)=((a+n:Nat):Int):=by rw [W_in y5 y5]; omega
  have:¬ (((a+n:Nat):Int) < (l.length:Int)):=by omega
  simp only [hW,this,if_false,ext,Qe,j6]
 | f+1,n,h1,h2,hp=>by
  rw [ZX,ext];have hW:W ((a:Int)+n)=((a+n:Nat):Int):=by rw [W_in y5 y5]; omega
  have hlt:((a+n:Nat):Int) < (l.length:Int):=by omega
  have hs:sub l (a:Int) ((a+n+1:Nat):Int)=some ((l.drop a).take (n+1)):=by
   unfold sub; rw [if_pos ⟨by omega,by omega,by omega⟩];rw [Int.toNat_natCast,Int.toNat_natCast,List.drop_take];rw [show a+n+1 - a=n+1 by omega]
  have hlen:((l.drop a).take (n+1)).length=n+1:=by simp; omega
  obtain ⟨r,e,hr⟩:=uni_L1 (q:=(l.drop a).take (n+1)) (by rw [hlen]; omega) (fun c h=>hc c (List.mem_of_mem_drop (zP h))) n 1 (j7 _) (by rw [hlen]; omega);rw [hlen,uni_mtc hc h1 y5 hp] at hr
  have hu:YH ((l.drop a).take (n+1))=some (mtc l a n):=by
   have e':Za ((l.drop a).take (n+1),1)=some r:=e;simp only [YH,e',Qe];cases r with
   | inl u=>cases hq:mtc l a n with
    | true=>have:=hr.2 hq; cases this
    | false=>rfl
   | inr u=>rw [hr.1 rfl]
  simp only [hW,hlt,if_true,W_nat (show a+n≤1000000 by omega),hs,Qe,hu];cases hq:mtc l a n with
  | true =>
   simp only [if_true,W_nat (show n≤1000000 by omega)]
   exact rOf_L2 hl hc ha out f (n+1) y5 y5 fun k k1 k2=>by
    by_cases e:k=n
    ·subst e; exact hq
    ·exact hp k k1 y5
  | false=>simp
theorem rOf_L1 {l:List Qg} (hl:l.length≤600) (hc:∀ c∈l,cellR c):∀ (f a:Nat) (out:List Qk),a≤l.length→l.length - a≤f→out.length≤a→ZW (l,out,(a:Int))=some (out++ofF l f a)
 | 0,a,out,h1,h2,h3=>by
  rw [ZW]
  have:¬ ((a:Int) < (l.length:Int)):=by omega
  simp [this,ofF]
 | f+1,a,out,h1,h2,h3=>by
  rw [ZW,ofF];by_cases h:a < l.length
  ·have hlt:(a:Int) < (l.length:Int):=by omega
   have hn:=runN_le h;have e2:ZX ((a:Int),l,out,1)=some ((runN l a:Nat):Int):=rOf_L2 hl hc h out (l.length - (a+1)) 1 (j7 _) y5 fun k k1 k2=>by omega
   have hW:W ((a:Int)+(runN l a:Nat))=((a+runN l a:Nat):Int):=by rw [W_in y5 y5]; omega
   have b0:=hc _ (ce_mem h)
   have hrun:(⟨(a:Int),((runN l a:Nat):Int),(ce l a).fill,if (ce l a).fill=false then (ce l a).buffer else 0,if (ce l a).fill=false then (ce l a).offset else 0,if (ce l a).fill=false∧((runN l a:Nat):Int) > 1 then (ce l (a+1)).offset - (ce l a).offset else 0⟩:Qk)=runR l a:=by
    unfold runR;by_cases hf:(ce l a).fill=true
    ·obtain ⟨z1,z2⟩:=b0.2.2 hf;simp [hf,z1,z2,stp]
    ·have hf':(ce l a).fill=false:=by simpa using hf
     by_cases h1n:((runN l a:Nat):Int) > 1
     ·have hm:=ext_all l a (l.length - (a+1)) 1 1 (j7 _) (by show 1 < runN l a; omega);have hm':ce l (a+1)=cellK (ce l a) (stp l a) 1:=sameC_iff.1 hm;rw [cellK_step hf'] at hm'
      have:(ce l (a+1)).offset - (ce l a).offset=stp l a:=by rw [hm']; simp; omega
      simp [hf',h1n,this]
     ·have h1e:runN l a=1:=by omega
      have:stp l a=0:=by
       unfold stp;split
       ·rename_i hs
        exfalso
        have hm:mtc l a 1=true:=by
         refine sameC_iff.2 ?_;rw [cellK_step hf'];have e1:stp l a=(ce l (a+1)).offset - (ce l a).offset:=by unfold stp; rw [if_pos hs]
         rw [e1];obtain ⟨_,_,s3,s4⟩:=hs;generalize ce l (a+1)=x at s3 s4 ⊢;obtain ⟨f,b,o⟩:=x;simp at s3 s4;simp [s3,s4]; omega
        have:2≤runN l a:=by
         unfold runN;obtain ⟨g,hg⟩:∃ g,l.length - (a+1)=g+1:=⟨l.length - (a+1) - 1,by have:=hs.1; omega⟩;rw [hg,ext,if_pos hm];exact (ext_ge l a g 2).1
        omega
       ·rfl
      simp [hf',h1e,this]
   rw [if_pos h,if_pos hlt];simp only [e2,Qe,ce_idx h];by_cases hf:(ce l a).fill=false
   ·by_cases h1n:((runN l a:Nat):Int) > 1
    ·have hlt1:a+1 < l.length:=by omega
     have b1:=hc _ (ce_mem hlt1);have hWo:W ((ce l (a+1)).offset - (ce l a).offset)=(ce l (a+1)).offset - (ce l a).offset:=W_in (by have:=b1.2.1; have:=b0.2.1; omega) (by have:=b1.2.1; have:=b0.2.1; omega);simp only [hf,h1n,if_true,Qe,decide_true,W_nat (show a≤1000000 by omega),ce_idx hlt1,hWo];simp only [hf,h1n,if_true,and_self] at hrun;rw [hrun,app_le y6 y5,Qe,hW,rOf_L1 hl hc f (a+runN l a) _ hn.2 y5 y6];simp
    ·simp only [hf,h1n,if_true,Qe,zY,j6,if_false];simp only [hf,h1n,if_true,and_false,if_false] at hrun;rw [hrun,app_le y6 y5,Qe,hW,rOf_L1 hl hc f (a+runN l a) _ hn.2 y5 y6];simp
   ·have hft:¬ (true=false):=by simp
    have hf1:(ce l a).fill=true:=by simpa using hf
    simp only [hf1,reduceCtorEq,if_false,Qe];simp only [hf1,reduceCtorEq,if_false,false_and] at hrun;rw [hrun,app_le y6 y5,Qe,hW,rOf_L1 hl hc f (a+runN l a) _ hn.2 y5 y6];simp
  ·have hlt:¬ ((a:Int) < (l.length:Int)):=by omega
   simp [hlt,h]
theorem rOf_ok {l:List Qg} (hl:l.length≤600) (hc:∀ c∈l,cellR c):Xp l=some (ofR l):=by
 have e:=rOf_L1 hl hc l.length 0 [] y5 y5 y7;have e':ZW (l,[],0)=some (ofR l):=e;simp only [Xp,e',Qe]
-- Plain laws: the run with an index, in the program and in the reference.
def cellRn (r:Qk) (k:Nat):Qg:=if r.fill=true then ⟨true,0,0⟩ else ⟨false,r.buffer,r.offset+k * r.step⟩
structure bndR (r:Qk):Prop where
 b:0≤r.buffer∧r.buffer≤100000
 o:0≤r.offset∧r.offset≤100000
 s:-100000≤r.step∧r.step≤100000
def RunsAt (l:List Qg):Nat→List Qk→Prop
 | a,[]=>a=l.length
 | a,r::R=>∃ m:Nat,(r.at0_=(a:Int)∧r.len=(m:Int))∧(1≤m∧a+m≤l.length)∧(∀ k,k < m→ce l (a+k)=cellRn r k)∧bndR r∧RunsAt l (a+m) R
theorem ofF_runs {l:List Qg} (hc:∀ c∈l,cellR c):∀ (f a:Nat),a≤l.length→l.length - a≤f→RunsAt l a (ofF l f a)
 | 0,a,h1,h2=>by
  simp only [ofF,RunsAt]; omega
 | f+1,a,h1,h2=>by
  rw [ofF];split
  ·rename_i h;have hn:=runN_le h;have hca:=hc _ (ce_mem h);refine ⟨runN l a,⟨rfl,rfl⟩,hn,fun k hk=>?_,⟨hca.1,hca.2.1,stp_b hc a h⟩,ofF_runs hc f _ hn.2 y5⟩;have hcl:cellRn (runR l a) k=cellK (ce l a) (stp l a) k:=rfl;rw [hcl];by_cases h0:k=0
   ·subst h0;unfold cellK;by_cases hf:(ce l a).fill=true
    ·have hz:=hca.2.2 hf
     have:ce l (a+0)=ce l a:=rfl
     rw [this,if_pos hf];generalize ce l a=x at hf hz;obtain ⟨g,b,o⟩:=x;simp at hf hz;simp [hf,hz]
    ·have:ce l (a+0)=ce l a:=rfl
     rw [this,if_neg hf];generalize ce l a=x at hf;obtain ⟨g,b,o⟩:=x;simp at hf;simp [hf]
   ·exact sameC_iff.1 (ext_all l a _ 1 k y5 hk)
  ·simp only [RunsAt]; omega
def pos:List Qk→Nat→Nat × Nat
 | [],_=>(0,0)
 | r::R,g=>if g < r.len.toNat then (0,g) else ((pos R (g - r.len.toNat)).1+1,(pos R (g - r.len.toNat)).2)
theorem pos_spec {l:List Qg}:∀ {R:List Qk} {a g:Nat},RunsAt l a R→a+g < l.length→∃ r,R[(pos R g).1]? = some r∧r.at0_+((pos R g).2:Int)=((a+g:Nat):Int)∧((pos R g).2:Int) < r.len∧ce l (a+g)=cellRn r (pos R g).2∧bndR r
 | [],a,g,h,hg=>by simp only [RunsAt] at h; omega
 | r::R,a,g,h,hg=>by
  obtain ⟨m,⟨e1,e2⟩,⟨h1,h2⟩,h3,h4,h5⟩:=h;rw [pos];have hm:r.len.toNat=m:=by omega
  rw [hm];split
  ·rename_i hlt;exact ⟨r,rfl,by simp; omega,by simp; omega,h3 g hlt,h4⟩
  ·rename_i hlt;obtain ⟨r',k1,k2,k3,k4,k5⟩:=pos_spec (g:=g - m) h5 y5;refine ⟨r',by simpa using k1,by simp only; omega,k3,?_,k5⟩;rw [show a+g=a+m+(g - m) by omega];exact k4
theorem runs_len {l:List Qg}:∀ {R:List Qk} {a:Nat},RunsAt l a R→R.length+a≤l.length
 | [],a,h=>by simp only [RunsAt] at h; simp; omega
 | r::R,a,h=>by
  obtain ⟨m,_,⟨h1,h2⟩,_,_,h5⟩:=h;have:=runs_len h5;simp; omega

theorem rfind_L1 {l:List Qg} (hl:l.length≤600) {g:Nat} (hg:g < l.length):∀ (s p:List Qk) (a:Nat),p.length≤a→a≤g→RunsAt l a s→ZR (p++s,(g:Int),(p.length:Int))=some (.inl ((p.length+(pos s (g - a)).1:Nat):Int))
 | [],p,a,hp,ha,h=>by simp only [RunsAt] at h; omega
 | r::s,p,a,hp,ha,h=>by
  obtain ⟨m,⟨e1,e2⟩,⟨h1,h2⟩,_,_,h5⟩:=h;rw [ZR,pos];have hm:r.len.toNat=m:=by omega
  have hge:(g:Int)≥r.at0_:=by omega
  have hW:W (r.at0_+r.len)=r.at0_+r.len:=W_in y5 y5;simp only [QU,if_true,Qy,Qe,hge,hW,hm];by_cases hlt:g - a < m
  ·have:(g:Int) < r.at0_+r.len:=by omega
   simp [this,hlt]
  ·have hn:¬ ((g:Int) < r.at0_+r.len):=by omega
   have hWp:W ((p.length:Int)+1)=((p++[r]).length:Int):=by rw [W_in y5 y5]; simp
   simp only [hn,zY,j6,if_false,hlt,hWp];rw [Qr,rfind_L1 hl hg s (p++[r]) (a+m) y6 y5 h5];simp only [jV,List.length_singleton];rw [show g - (a+m)=g - a - m by omega];congr 2;omega
theorem rfind_ok {l:List Qg} (hl:l.length≤600) {R:List Qk} (hR:RunsAt l 0 R) {g:Nat} (hg:g < l.length):Yf (R,(g:Int))=some (((pos R g).1:Nat):Int):=by
 have e:=rfind_L1 hl hg R [] 0 (j7 _) (zN _) hR
 have e':ZR (R,(g:Int),0)=some (.inl (((pos R g).1:Nat):Int)):=by
  have:=e;simp only [jQ,jL,zW,Nat.sub_zero] at this;exact this
 simp only [Yf,e',Qe]

def atR (R:List Qk) (i:Nat):Int:=(R.map (·.at0_)).getD i 0
-- Plain laws: the pieces of a reshape, row by row, in the program.
def nilR:Qk:=⟨0,0,false,0,0,0⟩
def runAt (R:List Qk) (g:Nat):Qk:=R.getD (pos R g).1 nilR
def segs (R:List Qk) (n:Nat):Nat→Nat→Nat→Nat→List (Nat × Nat × Qk × Nat)
 | 0,_,_,_=>[]
 | k+1,f,x,w=>if w=0 then [] else (x,min w ((runAt R (f % n)).len.toNat - (pos R (f % n)).2),runAt R (f % n),(pos R (f % n)).2) ::
   segs R n k (f+min w ((runAt R (f % n)).len.toNat - (pos R (f % n)).2)) (x+min w ((runAt R (f % n)).len.toNat - (pos R (f % n)).2)) (w - min w ((runAt R (f % n)).len.toNat - (pos R (f % n)).2))
def accR (r:Qk) (o rk x:Nat):Qm:=if r.fill=true then ⟨1,0,0,[],0,0,0⟩ else ⟨2,r.buffer,r.offset+o * r.step - r.step * x,List.replicate rk 0++[r.step],0,0,0⟩
def segP (pre:List Int) (q:Nat × Nat × Qk × Nat):Qb:=⟨⟨pre++[(q.1:Int)],pre.map (·+1)++[((q.1+q.2.1:Nat):Int)]⟩,accR q.2.2.1 q.2.2.2 pre.length q.1⟩
def toA (a:Qm):Qn:=⟨a.kind,a.buffer,a.base,a.strides,a.start,a.step,a.mod⟩
def toPc (p:Qb):Qc:=⟨⟨p.box.lo,p.box.hi⟩,toA p.access⟩
theorem runAt_spec {l:List Qg} {R:List Qk} (hR:RunsAt l 0 R) {g:Nat} (hg:g < l.length):R[(pos R g).1]? = some (runAt R g)∧(runAt R g).at0_+((pos R g).2:Int)=(g:Int)∧((pos R g).2:Int) < (runAt R g).len∧ce l g=cellRn (runAt R g) (pos R g).2∧bndR (runAt R g)∧(runAt R g).len≤l.length:=by
 obtain ⟨r,h1,h2,h3,h4,h5⟩:=pos_spec (g:=g) hR y5
 have:runAt R g=r:=by simp [runAt,h1]
 rw [this];refine ⟨h1,by omega,h3,by simpa using h4,h5,?_⟩
 have key:∀ {R:List Qk} {a:Nat},RunsAt l a R→∀ r∈R,r.len≤l.length:=fun {R}=>by
  induction R with
  | nil=>intro a _ r hr; simp at hr
  | cons r0 R ih =>
   intro a h r hr;obtain ⟨m,⟨e1,e2⟩,⟨h1,h2⟩,_,_,h5⟩:=h;rcases List.mem_cons.1 hr with rfl|hr
   ·omega
   ·exact ih h5 r hr
 exact key hR r (jF h1)
theorem set_last {p:List Int} {x y:Int}:(p++[x]).set p.length y=p++[y]:=by simp
theorem idx_last {p:List Int} {x:Int}:idx (p++[x]) (p.length:Int)=some x:=by simp [idx]
theorem W_len1 {p:List Int} {x:Int} (h:p.length≤1000):W (((p++[x]).length:Int) - 1)=(p.length:Int):=by
 rw [W_in (by simp <;> omega) (by simp <;> omega)]; simp
theorem step_b {r:Qk} (h:bndR r) {o:Nat} (ho:o≤600):W ((o:Int) * r.step)=o * r.step∧W (r.offset+o * r.step)=r.offset+o * r.step∧-60000000≤(o:Int) * r.step∧(o:Int) * r.step≤60000000:=by
 have:=mul_b (a:=(o:Int)) (b:=r.step) (A:=600) (B:=100000) y5 y5 h.s.1 h.s.2;have:=h.o;exact ⟨W_in y5 y5,W_in y5 y5,by omega,by omega⟩
def rowsP (R:List Qk) (n:Nat) (a:List Int) (w:Nat) (b m:Nat):List Qb:=(List.range' b m).flatMap fun (b:Nat)=>(segs R n w (b * w) 0 w).map (segP (dig a (b:Int)))
theorem dig_b {a:List Int} (hc:checkR a=0) (hpos:∀ n∈a,1≤n) {o:Int} (h1:0≤o) (h2:o < prodI a):∀ x∈dig a o,0≤x∧x≤65536:=fun x hx=>by
 have hv:=vld_dig hpos h1 h2;obtain ⟨c1,c2,c3⟩:=checkR_ok hc
 have key:∀ {s i:List Int},vld s i=true→(∀ n∈s,n≤65536)→∀ x∈i,0≤x∧x≤65536:=fun {s}=>by
  induction s with
  | nil =>
   intro i hv _ x hx;cases i with
   | nil=>simp at hx
   | cons=>simp [vld] at hv
  | cons n s ih =>
   intro i hv hn x hx;cases i with
   | nil=>simp [vld] at hv
   | cons y i =>
    simp only [vld,jE,zA] at hv;rcases List.mem_cons.1 hx with rfl|hx
    ·have:=hn n y7; omega
    ·exact ih hv.2 (fun n h=>hn n (jG _ h)) x hx
 exact key hv (fun n h=>(c3 n h).2) x hx
def piece0 (r:Qk):Qb:=⟨⟨[],[]⟩,if r.fill=true then ⟨1,0,0,[],0,0,0⟩ else ⟨2,r.buffer,r.offset,[],0,0,0⟩⟩
-- Plain laws: the pieces of a reshape, in the reference.
theorem pos_zero {l:List Qg}:∀ {R:List Qk} {a:Nat},RunsAt l a R→pos R 0=(0,0)
 | [],a,h=>rfl
 | r::R,a,h=>by
  obtain ⟨m,⟨_,e2⟩,⟨h1,_⟩,_⟩:=h;rw [pos,if_pos y5]
theorem pos_next {l:List Qg}:∀ {R:List Qk} {a g:Nat},RunsAt l a R→a+g+1 < l.length →
  if ((pos R g).2:Int)+1 < (runAt R g).len then pos R (g+1)=((pos R g).1,(pos R g).2+1) else pos R (g+1)=((pos R g).1+1,0)
 | [],a,g,h,hg=>by simp only [RunsAt] at h; omega
 | r::R,a,g,h,hg=>by
  obtain ⟨m,⟨e1,e2⟩,⟨h1,h2⟩,h3,h4,h5⟩:=h;have hm:r.len.toNat=m:=by omega
  by_cases c:g < m
  ·have p1:pos (r::R) g=(0,g):=by rw [pos,hm,if_pos c]
   have hr:runAt (r::R) g=r:=by simp [runAt,p1]
   rw [hr,p1];by_cases c2:g+1 < m
   ·have p2:pos (r::R) (g+1)=(0,g+1):=by rw [pos,hm,if_pos c2]
    rw [if_pos (by simp only; omega),p2]
   ·have p2:pos (r::R) (g+1)=(1,0):=by
     rw [pos,hm,if_neg c2,show g+1 - m=0 by omega,pos_zero h5]
    rw [if_neg (by simp only; omega),p2]
  ·have p1:pos (r::R) g=((pos R (g - m)).1+1,(pos R (g - m)).2):=by rw [pos,hm,if_neg c]
   have p2:pos (r::R) (g+1)=((pos R (g - m+1)).1+1,(pos R (g - m+1)).2):=by rw [pos,hm,if_neg y5,show g+1 - m=g - m+1 by omega]
   have hr:runAt (r::R) g=runAt R (g - m):=by simp [runAt,p1]
   have ih:=pos_next (g:=g - m) h5 y5;rw [hr,p1,p2];split at ih
   ·rename_i c3;rw [if_pos c3,ih]
   ·rename_i c3;rw [if_neg c3,ih]
theorem run_end {l:List Qg}:∀ {R:List Qk} {a:Nat},RunsAt l a R→∀ r∈R,0≤r.at0_∧r.at0_+r.len≤l.length
 | [],a,h,r,hr=>by simp at hr
 | r0::R,a,h,r,hr=>by
  obtain ⟨m,⟨e1,e2⟩,⟨h1,h2⟩,_,_,h5⟩:=h;rcases List.mem_cons.1 hr with rfl|hr
  ·omega
  ·exact run_end h5 r hr
theorem step_mod {l:List Qg} {R:List Qk} (hR:RunsAt l 0 R) (hn:1≤l.length) (f:Nat) :
  if ((pos R (f % l.length)).2:Int)+1 < (runAt R (f % l.length)).len then pos R ((f+1) % l.length)=((pos R (f % l.length)).1,(pos R (f % l.length)).2+1) else (pos R ((f+1) % l.length)).2=0:=by
 have hlt:f % l.length < l.length:=Nat.mod_lt _ hn;obtain ⟨a1,a2,a3,a4,a5,a6⟩:=runAt_spec hR hlt;have hend:=run_end hR _ (jF a1);by_cases c:f % l.length+1 < l.length
 ·have e:(f+1) % l.length=f % l.length+1:=by
   rw [Nat.add_mod];by_cases h1:l.length=1
   ·omega
   ·rw [Nat.mod_eq_of_lt (show 1 < l.length by omega),Nat.mod_eq_of_lt c]
  have:=pos_next (g:=f % l.length) hR y5;rw [e];split at this
  ·rename_i c2; rw [if_pos c2,this]
  ·rename_i c2; rw [if_neg c2,this]
 ·have e:(f+1) % l.length=0:=by
   have h1:f % l.length+1=l.length:=by omega
   rw [Nat.add_mod];by_cases h1':l.length=1
   ·rw [h1']; omega
   ·rw [Nat.mod_eq_of_lt (show 1 < l.length by omega),h1,Nat.mod_self]
  rw [if_neg y5,e,pos_zero hR]
theorem offs {l:List Qg} {R:List Qk} (hR:RunsAt l 0 R) (hn:1≤l.length) (f:Nat):∀ i:Nat,((pos R (f % l.length)).2:Int)+i < (runAt R (f % l.length)).len→pos R ((f+i) % l.length)=((pos R (f % l.length)).1,(pos R (f % l.length)).2+i)
 | 0,h=>rfl
 | i+1,h=>by
  have ih:=offs hR hn f i y5;have:=step_mod hR hn (f+i);have hr:runAt R ((f+i) % l.length)=runAt R (f % l.length):=by simp only [runAt,ih]
  rw [hr,ih,if_pos (by simp only; omega)] at this;exact this
theorem rL2 {p1:List Int} {v20:List (List Int)} {v226:Int} {p0:List Qk} {v2:Int} {v223:Nat} {v225:List Qb} {v626 v627:Int} {v222 v641:List Int} {i:List Int} (hi:idx v20 v226=some i) (hb:∀ x∈i,0≤x∧x≤65536) (hp:p1.length=i.length) (hl:i.length≤900) :
  ∀ (t p:List Int) (g:Nat),i=p++t→∃ g',Q1 (p1,v20,v226,p0,v2,v223,v225,v626,v627,v222,v641,g,p.map (·+1),(p.length:Int))=some (g',i.map (·+1))
 | [],p,g,e=>by
  rw [Q1]
  have:¬ ((p.length:Int) < (p1.length:Int)):=by rw [hp,e]; simp
  simp only [this,if_false];rw [e,jU];exact ⟨g,rfl⟩
 | x::t,p,g,e=>by
  rw [Q1];have h1:((p.length:Int) < (p1.length:Int)):=by rw [hp,e]; simp; omega
  have h2:idx i (p.length:Int)=some x:=by rw [e]; exact Qy
  have hx:=hb x (by rw [e]; simp);have hW:W (x+1)=x+1:=W_in y5 y5
  have hWp:W ((p.length:Int)+1)=((p++[x]).length:Int):=by
   have:p.length≤900:=by rw [e] at hl; simp at hl; omega
   rw [W_in y5 y5]; simp
  have ha:app 8 (p.map (·+1)) [x+1]=some ((p++[x]).map (·+1)):=by
   have hq9:p.length≤900:=by rw [e] at hl; simp at hl; omega
   rw [app_le y6 y5]; simp
  obtain ⟨g',h⟩:=rL2 (p1:=p1) (v20:=v20) (v226:=v226) (p0:=p0) (v2:=v2) (v223:=v223) (v225:=v225) (v626:=v626) (v627:=v627) (v222:=v222) (v641:=v641) hi hb hp hl t (p++[x]) (gb g ([x+1]:List Int).isEmpty) (by rw [e]; simp);exact ⟨g',by simp only [h1,if_true,hi,Qe,h2,hW,ha,hWp]; exact h⟩

structure Ctx (l:List Qg) (R:List Qk) (a:List Int) (w B:Nat):Prop where
 hl:l.length≤600
 hR:RunsAt l 0 R
 hn:1≤l.length
 hw:1≤w
 hc:checkR (a++[(w:Int)])=0
 hca:checkR a=0
 hpos:∀ n∈a,1≤n
 hB:prodI a=(B:Int)
 hBw:B * w≤65536
section
variable {l:List Qg} {R:List Qk} {a:List Int} {w B:Nat}
theorem Ctx.bw (C:Ctx l R a w B) {b x:Nat} (hb:b < B) (hx:x < w):b * w+x < B * w:=by
 have hbB:(b+1) * w≤B * w:=Nat.mul_le_mul_right _ y5;rw [Nat.add_mul,Nat.one_mul] at hbB;omega
theorem Ctx.posw (C:Ctx l R a w B):∀ n∈a++[(w:Int)],1≤n:=fun n h=>by
 rcases List.mem_append.1 h with h|h
 ·exact C.hpos n h
 ·have:=C.hw; simp at h; omega
theorem Ctx.P (C:Ctx l R a w B):prodI (a++[(w:Int)])=((B * w:Nat):Int):=by rw [prodI_append,C.hB,prodI_cons,prodI_nil,Int.mul_one]; simp
theorem Ctx.ix (C:Ctx l R a w B) {b x:Nat} (hb:b < B) (hx:x < w):(allL (a++[(w:Int)]))[b * w+x]? = some (dig a (b:Int)++[(x:Int)]):=by
 have h:=C.bw hb hx;have hw:=C.hw;rw [allL_get C.posw _ (by rw [C.P]; omega)];rw [dig_snoc a (w:Int) _ C.hpos y5 y5 (by rw [C.P]; omega)]
 have e1:((b * w+x:Nat):Int) / (w:Int)=(b:Int):=by
  have:(b * w+x) / w=b:=by rw [Nat.mul_comm,Nat.mul_add_div y5,Nat.div_eq_of_lt hx]; omega
  rw [← Int.natCast_ediv,this]
 have e2:((b * w+x:Nat):Int) % (w:Int)=(x:Int):=by
  have:(b * w+x) % w=x:=by rw [Nat.mul_comm,Nat.mul_add_mod,Nat.mod_eq_of_lt hx]
  rw [← Int.natCast_emod,this]
 rw [e1,e2]
theorem Ctx.len (C:Ctx l R a w B):(allL (a++[(w:Int)])).length=B * w:=by
 have:=allL_len (s:=a++[(w:Int)]) (fun n h=>by have:=C.posw n h; omega);rw [C.P] at this; omega
theorem fr_ok (C:Ctx l R a w B) (f x:Nat):((if ((x:Int) == 0)=true then some true else some (((f % l.length:Nat):Int) == 0))>>=fun (v632:Bool)=>if v632=true then some true else Yf (R,W (((f % l.length:Nat):Int) - 1))>>=fun v633=>some (v633 != (((pos R (f % l.length)).1:Nat):Int)))=some (decide (x=0∨(pos R (f % l.length)).2=0)):=by
 have hlt:f % l.length < l.length:=Nat.mod_lt _ C.hn;have hl:=C.hl;by_cases h0:x=0
 ·subst h0; simp
 ·have hx:((x:Int) == 0)=false:=by simpa using h0
  simp only [hx,j6,if_false,Qe];generalize hg:f % l.length=g at *;cases g with
  | zero=>simp [pos_zero C.hR]
  | succ g =>
   have hz:(((g+1:Nat):Int) == 0)=false:=beq_false_of_ne y5;have hW:W (((g+1:Nat):Int) - 1)=(g:Int):=by rw [W_in y5 y5]; omega
   simp only [hz,j6,if_false,hW,rfind_ok C.hl C.hR (show g < l.length by omega),Qe];have hp:=pos_next (g:=g) C.hR y5;split at hp
   ·rw [hp]; simp [h0]
   ·rw [hp]; simp; omega
def shP (p:Qb) (h:List Int):Qb:=⟨⟨p.box.lo,h⟩,p.access⟩
theorem flap_ok {out:List Qb} {hi:List Int} {p:Qb} (h:out.length≤70000):flap 120 (fun (p_:Qb) (h_:List Int)=>(⟨⟨p_.box.lo,h_⟩,p_.access⟩:Qb)) out hi p=some (flP shP out hi++[p]):=by
 have h2:100000 * 120≤room:=by decide +kernel
 unfold flap;rw [if_pos y5];rfl
theorem hot_step (C:Ctx l R a w B) {b x:Nat} (hb:b < B) (hx:x < w) (hx0:x≠0) (ho:(pos R ((b * w+x) % l.length)).2≠0) {out:List Qb} (h0:out≠[]) (h1:out.length≤70000) {pre:List Int} (hp:pre.length=a.length) {y:Int} (hy:0≤y∧y≤70000) (g t:Nat) :
  Qt (allL (a++[(w:Int)]),(l.length:Int),R,a++[(w:Int)],g,pre++[y],t,a.length+1,out,((b * w+x:Nat):Int))=Qt (allL (a++[(w:Int)]),(l.length:Int),R,a++[(w:Int)],g,pre++[y+1],t,a.length+1,out,((b * w+x+1:Nat):Int)):=by
 rw [Qt];have hbw:=C.bw hb hx;have hBw:=C.hBw;have hn:=C.hn;obtain ⟨c1,c2,c3⟩:=checkR_ok C.hca;have hlt:(((b * w+x:Nat):Int) < ((allL (a++[(w:Int)])).length:Int)):=by rw [C.len]; omega
 have hmod:(((b * w+x:Nat):Int) % (l.length:Int))=(((b * w+x) % l.length:Nat):Int):=by rw [Int.natCast_emod]
 have hrem:remM ((b * w+x:Nat):Int) (l.length:Int)=some (((b * w+x) % l.length:Nat):Int):=by rw [remM_ok y5 y5,hmod]
 have hfind:=rfind_ok C.hl C.hR (Nat.mod_lt (b * w+x) hn);have hW1:W (((a++[(w:Int)]).length:Int) - 1)=(a.length:Int):=W_len1 y5;have hneg:¬ ((a.length:Int) < 0):=by omega
 have hix:=idx_of (C.ix hb hx);have hdl:(dig a (b:Int)).length=a.length:=dig_len _ _;have ix:idx (dig a (b:Int)++[(x:Int)]) (a.length:Int)=some (x:Int):=by rw [← hdl]; exact idx_last
 have hfr:=fr_ok C (b * w+x) x;rw [show decide (x=0∨(pos R ((b * w+x) % l.length)).2=0)=false by simp [hx0,ho]] at hfr;have hpos:0 < out.length:=by cases out with|nil=>exact absurd rfl h0|cons=>simp
 have g1:ZY (0 < out.length∧out.length≤4611686018427387904)=some ():=guardM_ok ⟨hpos,by omega⟩;have g2:ZY ((pre++[y]).length=a.length+1)=some ():=guardM_ok (by simp [hp]);have i1:idx (pre++[y]) (a.length:Int)=some y:=by rw [← hp]; exact idx_last
 have hWy:W (y+1)=y+1:=W_in y5 y5;have s1:setM (pre++[y]) (a.length:Int) (y+1)=some (pre++[y+1]):=by rw [setM_ok y6,← hp,set_last]
 have hWf:W (((b * w+x:Nat):Int)+1)=((b * w+x+1:Nat):Int):=W_nat y5;simp only [hlt,if_true,hrem,Qe,hfind,hW1,hneg,if_false,hix,ix,hfr,g1,g2,i1,hWy,s1,hWf]
theorem hot_run (C:Ctx l R a w B) {b x:Nat} (hb:b < B) {out:List Qb} (h0:out≠[]) (h1:out.length≤70000) {pre:List Int} (hp:pre.length=a.length) (g t:Nat) :
  ∀ j,x+1+j≤w→(∀ i,i < j→(pos R ((b * w+(x+1+i)) % l.length)).2≠0) →
  Qt (allL (a++[(w:Int)]),(l.length:Int),R,a++[(w:Int)],g,pre++[(x:Int)+1],t,a.length+1,out,((b * w+x+1:Nat):Int))=Qt (allL (a++[(w:Int)]),(l.length:Int),R,a++[(w:Int)],g,pre++[((x+1+j:Nat):Int)],t,a.length+1,out,((b * w+(x+1+j):Nat):Int))
 | 0,_,_=>rfl
 | j+1,hj,ho=>by
  have hbw:=C.bw (b:=b) (x:=x+1+j) hb y5;have hBw:=C.hBw;rw [hot_run C hb h0 h1 hp g t j y5 fun i hi=>ho i y5];rw [hot_step C hb (x:=x+1+j) y5 y5 (ho j y5) h0 h1 hp y5 g t];rfl
theorem fresh_step (C:Ctx l R a w B) {b x:Nat} (hb:b < B) (hx:x < w) (ho:x=0∨(pos R ((b * w+x) % l.length)).2=0) {out:List Qb} (h1:out.length≤70000) (hi:List Int) (g t:Nat) :
  ∃ g',Qt (allL (a++[(w:Int)]),(l.length:Int),R,a++[(w:Int)],g,hi,t,hi.length,out,((b * w+x:Nat):Int))=Qt (allL (a++[(w:Int)]),(l.length:Int),R,a++[(w:Int)],g',(dig a (b:Int)).map (·+1)++[(x:Int)+1],t+1,a.length+1,
   flP shP out hi++[⟨⟨dig a (b:Int)++[(x:Int)],(dig a (b:Int)).map (·+1)++[(x:Int)+1]⟩,accR (runAt R ((b * w+x) % l.length)) (pos R ((b * w+x) % l.length)).2 a.length x⟩],((b * w+x+1:Nat):Int)):=by
 rw [Qt];have hbw:=C.bw hb hx;have hBw:=C.hBw;have hn:=C.hn;have hl:=C.hl;obtain ⟨c1,c2,c3⟩:=checkR_ok C.hca;obtain ⟨d1,d2,d3⟩:=checkR_ok C.hc;have hlt:(((b * w+x:Nat):Int) < ((allL (a++[(w:Int)])).length:Int)):=by rw [C.len]; omega
 have hmod:(((b * w+x:Nat):Int) % (l.length:Int))=(((b * w+x) % l.length:Nat):Int):=by rw [Int.natCast_emod]
 have hrem:remM ((b * w+x:Nat):Int) (l.length:Int)=some (((b * w+x) % l.length:Nat):Int):=by rw [remM_ok y5 y5,hmod]
 have hml:=Nat.mod_lt (b * w+x) hn;have hfind:=rfind_ok C.hl C.hR hml;have hW1:W (((a++[(w:Int)]).length:Int) - 1)=(a.length:Int):=W_len1 y5;have hneg:¬ ((a.length:Int) < 0):=by omega
 have hge:((a.length:Int)≥0):=by omega
 have hix:=idx_of (C.ix hb hx);have hdl:(dig a (b:Int)).length=a.length:=dig_len _ _;have ix:idx (dig a (b:Int)++[(x:Int)]) (a.length:Int)=some (x:Int):=by rw [← hdl]; exact idx_last
 have hfr:=fr_ok C (b * w+x) x;rw [show decide (x=0∨(pos R ((b * w+x) % l.length)).2=0)=true by simp [ho]] at hfr;have g2:ZY (hi.length=hi.length)=some ():=guardM_ok rfl;have hxw:x≤65536:=by have:=Nat.le_add_left x (b * w); omega
 have hdb:=dig_b C.hca C.hpos (show (0:Int)≤(b:Int) by omega) (by rw [C.hB]; omega)
 have hbi:∀ y∈dig a (b:Int)++[(x:Int)],0≤y∧y≤65536:=fun y hy=>by
  rcases List.mem_append.1 hy with hy|hy
  ·exact hdb y hy
  ·simp at hy; omega
 obtain ⟨g',hL2⟩:=rL2 (p1:=a++[(w:Int)]) (p0:=R) (v2:=(l.length:Int)) (v223:=t) (v225:=out) (v626:=(((b * w+x) % l.length:Nat):Int)) (v627:=(((pos R ((b * w+x) % l.length)).1:Nat):Int)) (v222:=hi) (v641:=dig a (b:Int)++[(x:Int)]) hix hbi (by simp [hdl]) (by simp [hdl]; omega) (dig a (b:Int)++[(x:Int)]) [] (flg g out+1) rfl;simp only [List.map_nil,jL,jJ] at hL2;refine ⟨g',?_⟩;obtain ⟨a1,a2,a3,a4,a5,a6⟩:=runAt_spec C.hR hml;have hrun:=idx_of a1;have hmap:(dig a (b:Int)++[(x:Int)]).map (·+1)=(dig a (b:Int)).map (·+1)++[(x:Int)+1]:=by simp
 have hmlen:((dig a (b:Int)).map (·+1)++[(x:Int)+1]).length=a.length+1:=by simp [hdl]
 have hWf:W (((b * w+x:Nat):Int)+1)=((b * w+x+1:Nat):Int):=W_nat y5;have htf:¬ (true=false):=by simp
 have gT:ZY True=some ():=guardM_ok trivial;simp only [hlt,if_true,hrem,Qe,hfind,hW1,hneg,if_false,hix,ix,hfr,htf,reduceCtorEq,g2,gT,hL2,hrun,hmap,hge];generalize hr:runAt R ((b * w+x) % l.length)=r at *;generalize hoo:(pos R ((b * w+x) % l.length)).2=o at *;by_cases hf:r.fill=true
 ·simp only [hf,reduceCtorEq,if_false,flap_ok h1,Qe,hWf,hmlen];simp only [accR,hf,if_true]
 ·have hf':r.fill=false:=by simpa using hf
  have hol:o≤600:=by omega
  obtain ⟨w1,w2,w3,w4⟩:=step_b a5 hol;have hbb:=mul_b (a:=r.step) (b:=(x:Int)) (A:=100000) (B:=65536) a5.s.1 a5.s.2 y5 y5;have w5:W (r.step * (x:Int))=r.step * x:=W_in y5 y5;have w6:W (r.offset+(o:Int) * r.step - r.step * x)=r.offset+o * r.step - r.step * x:=by have:=a5.o; exact W_in y5 y5
  have w7:W ((((b * w+x) % l.length:Nat):Int) - r.at0_)=(o:Int):=by rw [W_in y5 y5]; omega
  have hrep:List.replicate (a++[(w:Int)]).length (0:Int)=List.replicate a.length 0++[0]:=by simp [List.replicate_succ']
  have hrl:(List.replicate a.length (0:Int)).length=a.length:=by simp
  have i1:idx (List.replicate a.length (0:Int)++[0]) (a.length:Int)=some 0:=by
   have:=idx_last (p:=List.replicate a.length (0:Int)) (x:=0)
   rwa [hrl] at this
  have s1:setM (List.replicate a.length (0:Int)++[0]) (a.length:Int) r.step=some (List.replicate a.length 0++[r.step]):=by
   rw [setM_ok y7];have:=set_last (p:=List.replicate a.length (0:Int)) (x:=0) (y:=r.step);rw [hrl] at this;rw [this]
  have hg3:ZY ((List.replicate a.length 0++[r.step]).length=(List.replicate a.length (0:Int)++[0]).length)=some ():=guardM_ok y7;simp only [hf',if_true,make_ok (show (a++[(w:Int)]).length≤1000 by omega),hrep,Qe,i1,s1,w7,w1,w2,w5,w6,hg3,flap_ok h1,hWf,hmlen];simp only [accR,hf',j6,if_false]
theorem seg_run (C:Ctx l R a w B) {b:Nat} (hb:b < B):∀ (k x wr:Nat) (hi:List Int) (out:List Qb) (g t:Nat),x+wr=w→wr≤k→(wr=0∨x=0∨(pos R ((b * w+x) % l.length)).2=0)→out.length≤b * w+x →
  ∃ g' hi' t' out',Qt (allL (a++[(w:Int)]),(l.length:Int),R,a++[(w:Int)],g,hi,t,hi.length,out,((b * w+x:Nat):Int))=Qt (allL (a++[(w:Int)]),(l.length:Int),R,a++[(w:Int)],g',hi',t',hi'.length,out',((b * w+w:Nat):Int)) ∧
   flP shP out' hi'=flP shP out hi++(segs R l.length k (b * w+x) x wr).map (segP (dig a (b:Int)))∧out'.length≤b * w+w
 | 0,x,wr,hi,out,g,t,h1,h2,h3,h4=>by
  have:x=w:=by omega
  subst this;exact ⟨g,hi,t,out,rfl,by simp [segs],by omega⟩
 | k+1,x,wr,hi,out,g,t,h1,h2,h3,h4=>by
  by_cases h0:wr=0
  ·have:x=w:=by omega
   subst this;exact ⟨g,hi,t,out,rfl,by simp [segs,h0],by omega⟩
  ·have hBw:=C.hBw;have hx:x < w:=by omega
   have hbw:=C.bw (b:=b) (x:=x) hb hx;have hn:=C.hn;have hdl:(dig a (b:Int)).length=a.length:=dig_len _ _;have hml:=Nat.mod_lt (b * w+x) hn;obtain ⟨a1,a2,a3,a4,a5,a6⟩:=runAt_spec C.hR hml;obtain ⟨g1,e1⟩:=fresh_step C hb hx y5 (out:=out) y5 hi g t;generalize hz:min wr ((runAt R ((b * w+x) % l.length)).len.toNat - (pos R ((b * w+x) % l.length)).2)=z;have hz1:1≤z:=by omega
   have hzw:z≤wr:=by omega
   have hofs:=offs C.hR hn (b * w+x);have hpre:((dig a (b:Int)).map (·+1)).length=a.length:=by simp [hdl]
   have e2:=hot_run C hb (x:=x) (out:=flP shP out hi++[⟨⟨dig a (b:Int)++[(x:Int)],(dig a (b:Int)).map (·+1)++[(x:Int)+1]⟩,accR (runAt R ((b * w+x) % l.length)) (pos R ((b * w+x) % l.length)).2 a.length x⟩]) y7 (by simp [flP_len]; omega) hpre g1 (t+1) (z - 1) y5 fun i hi=>by
    have:=hofs (1+i) y5;rw [show b * w+(x+1+i)=b * w+x+(1+i) by omega,this];simp only; omega
   rw [e2,show x+1+(z - 1)=x+z by omega] at e1;have hlen2:a.length+1=((dig a (b:Int)).map (·+1)++[((x+z:Nat):Int)]).length:=by simp [hdl]
   rw [hlen2] at e1
   have hfr:wr - z=0∨x+z=0∨(pos R ((b * w+(x+z)) % l.length)).2=0:=by
    by_cases hq:wr - z=0
    ·exact .inl hq
    ·refine .inr (.inr ?_);have hzl:z=(runAt R ((b * w+x) % l.length)).len.toNat - (pos R ((b * w+x) % l.length)).2:=by omega
     have h5:=hofs (z - 1) y5;have h6:=step_mod C.hR hn (b * w+x+(z - 1));have hr:runAt R ((b * w+x+(z - 1)) % l.length)=runAt R ((b * w+x) % l.length):=by simp only [runAt,h5]
     rw [hr,h5,if_neg (by simp only; omega)] at h6;rw [show b * w+(x+z)=b * w+x+(z - 1)+1 by omega];exact h6
   obtain ⟨g',hi',t',out',f1,f2,f3⟩:=seg_run C hb k (x+z) (wr - z) ((dig a (b:Int)).map (·+1)++[((x+z:Nat):Int)]) (flP shP out hi++[⟨⟨dig a (b:Int)++[(x:Int)],(dig a (b:Int)).map (·+1)++[(x:Int)+1]⟩,accR (runAt R ((b * w+x) % l.length)) (pos R ((b * w+x) % l.length)).2 a.length x⟩]) g1 (t+1) y5 y5 hfr (by simp [flP_len]; omega);refine ⟨g',hi',t',out',e1.trans f1,?_,f3⟩;rw [f2,flP_snoc,segs,if_neg h0,hz];rw [show b * w+(x+z)=b * w+x+z by omega];simp only [zS,List.append_assoc,List.singleton_append];congr 2;simp only [segP,shP,hdl]
theorem rows_run (C:Ctx l R a w B):∀ (m b:Nat) (hi:List Int) (out:List Qb) (g t:Nat),b+m=B→out.length≤b * w →
  ∃ g' hi' t' out',Qt (allL (a++[(w:Int)]),(l.length:Int),R,a++[(w:Int)],g,hi,t,hi.length,out,((b * w:Nat):Int))=Qt (allL (a++[(w:Int)]),(l.length:Int),R,a++[(w:Int)],g',hi',t',hi'.length,out',((B * w:Nat):Int)) ∧
   flP shP out' hi'=flP shP out hi++rowsP R l.length a w b m
 | 0,b,hi,out,g,t,h1,h2=>by
  have:b=B:=by omega
  subst this;exact ⟨g,hi,t,out,rfl,by simp [rowsP]⟩
 | m+1,b,hi,out,g,t,h1,h2=>by
  obtain ⟨g1,hi1,t1,out1,e1,e2,e3⟩:=seg_run C (b:=b) y5 w 0 w hi out g t y5 (j7 _) y5 y5;rw [show b * w+w=(b+1) * w by rw [Nat.add_mul,Nat.one_mul]] at e1 e3;obtain ⟨g2,hi2,t2,out2,f1,f2⟩:=rows_run C m (b+1) hi1 out1 g1 t1 y5 e3;refine ⟨g2,hi2,t2,out2,e1.trans f1,?_⟩;rw [f2,e2];simp only [rowsP,List.range'_succ,List.flatMap_cons,List.append_assoc,zV]
theorem total_L1 (l:List Qg) (hl:l.length≤600):∀ (s p:List Qk) (b:Nat),p.length≤b→b≤l.length→RunsAt l b s→Zg (p++s,(b:Int),(p.length:Int))=some (l.length:Int)
 | [],p,b,hp,hb,h=>by
  rw [Zg];simp only [RunsAt] at h;simp only [Q4,if_false,h]
 | r::s,p,b,hp,hb,h=>by
  obtain ⟨m,⟨e1,e2⟩,⟨h1,h2⟩,_,_,h5⟩:=h;rw [Zg];have hW:W ((b:Int)+r.len)=((b+m:Nat):Int):=by rw [W_in y5 y5]; omega
  have hWp:W ((p.length:Int)+1)=((p++[r]).length:Int):=by rw [W_in y5 y5]; simp
  simp only [QU,if_true,Qy,Qe,hW,hWp];rw [Qr];exact total_L1 l hl s (p++[r]) (b+m) y6 h2 h5
theorem total_ok (hl:l.length≤600) (hR:RunsAt l 0 R):Yn R=some (l.length:Int):=by
 have e:=total_L1 l hl R [] 0 (j7 _) (zN _) hR;have e':Zg (R,0,0)=some (l.length:Int):=e;simp only [Yn,e',Qe]
theorem rPieces_row (C:Ctx l R a w B) (hR2:2≤R.length) (hall:ZG (a++[(w:Int)])=some (allL (a++[(w:Int)]))):QT (R,a++[(w:Int)])=some (rowsP R l.length a w 0 B):=by
 have hB1:1≤B:=by have:=prodI_pos C.hpos; have:=C.hB; omega
 have hBw1:1≤B * w:=Nat.mul_pos hB1 C.hw;have hn:=C.hn;obtain ⟨c1,c2,c3⟩:=checkR_ok C.hc;obtain ⟨g,hi,t,out,e1,e2⟩:=rows_run C B 0 [] [] 0 0 y5 y7;have hlt:¬ (((B * w:Nat):Int) < ((allL (a++[(w:Int)])).length:Int)):=by rw [C.len]; omega
 conv at e1=>rhs; rw [Qt]
 simp only [hlt,if_false] at e1
 have e1':Qt (allL (a++[(w:Int)]),(l.length:Int),R,a++[(w:Int)],0,[],0,0,[],0)=some (g,hi,t,hi.length,out):=by
  have:(((0 * w:Nat)):Int)=0:=by simp
  rw [this] at e1;exact e1
 have hS:Sm (a++[(w:Int)]).length:=Sm_of (show (a++[(w:Int)]).length≤1000 by omega);have k1:¬ (((B * w:Nat):Int)=0):=by omega
 have k2:¬ ((l.length:Int)=0):=by omega
 have k3:¬ ((R.length:Int)=1):=by omega
 have gT:ZY (hi.length=hi.length)=some ():=guardM_ok rfl;simp only [QT,Cells_ok _ hS,cellsR,C.hc,if_true,C.P,Qe,k1,if_false,total_ok C.hl C.hR,k2,k3,j6,hall,e1',gT]
 have:flP shP out hi=rowsP R l.length a w 0 B:=by rw [e2]; rfl
 rw [← this];rfl
end
-- Plain laws: pieces that tile a shape, one behind the other: they cover, and each index has its origin.
theorem has_L1:∀ (i lo hi pi pl ph:List Int),lo.length=i.length→hi.length=i.length→pl.length=pi.length→ph.length=pi.length→pi.length+i.length≤600→Z1 (pi++i,⟨pl++lo,ph++hi⟩,(pi.length:Int))=some (if inB lo hi i=true then .inr () else .inl ())
 | [],[],[],pi,pl,ph,_,_,h1,h2,hl=>by
  rw [Z1];simp only [Q4,if_false]; rfl
 | x::i,l::lo,h::hi,pi,pl,ph,e1,e2,h1,h2,hl=>by
  rw [Z1];have i1:idx (pl++l::lo) (pi.length:Int)=some l:=by rw [← h1]; exact Qy
  have i2:idx (ph++h::hi) (pi.length:Int)=some h:=by rw [← h2]; exact Qy
  have ih:=has_L1 i lo hi (pi++[x]) (pl++[l]) (ph++[h]) (by simpa using e1) (by simpa using e2) (by simp [h1]) (by simp [h2]) (by simp at hl ⊢; omega);rw [← Qr,← Qr,← Qr] at ih;simp only [QU,if_true,Qy,Qe,i1,i2,W_l (x:=x) (show pi.length≤100000 by omega),ih,inB];by_cases g1:x < l
  ·have:¬ l≤x:=by omega
   simp [g1,this]
  ·have g1':l≤x:=by omega
   by_cases g2:x≥h
   ·have:¬ x < h:=by omega
    simp [g1,g2,this]
   ·have:x < h:=by omega
    simp [g1,g1',g2,this]
 | [],_::_,_,_,_,_,h,_,_,_,_=>by simp at h
 | [],[],_::_,_,_,_,_,h,_,_,_=>by simp at h
 | _::_,[],_,_,_,_,h,_,_,_,_=>by simp at h
 | _::_,_::_,[],_,_,_,_,h,_,_,_=>by simp at h
theorem has_ok {b:Qi} {i:List Int} (h1:b.lo.length=i.length) (h2:b.hi.length=i.length) (hl:i.length≤600):Xy (b,i)=some (inB b.lo b.hi i):=by
 obtain ⟨lo,hi⟩:=b;simp only at h1 h2 ⊢;have e:=has_L1 i lo hi [] [] [] h1 h2 rfl rfl y6;simp only [jQ,jL,jJ] at e;have g:¬ ((i.length:Int)≠(lo.length:Int)):=by simp; omega
 simp only [Xy,g,if_false,e,Qe];cases inB lo hi i <;> rfl
theorem dig_less:∀ {s:List Int} {f g:Int},(∀ n∈s,1≤n)→0≤f→f < g→g < prodI s→lessL (dig s f) (dig s g)=true
 | [],f,g,_,h0,h1,h2=>by rw [prodI_nil] at h2; omega
 | n::s,f,g,hp,h0,h1,h2=>by
  have hP:=prodI_pos (fun n hn=>hp n (jG _ hn));have d1:=Int.emod_add_mul_ediv f (prodI s);have d2:=Int.emod_add_mul_ediv g (prodI s);have m1:=Int.emod_nonneg f (show prodI s≠0 by omega);have m2:=Int.emod_nonneg g (show prodI s≠0 by omega);have n1:=Int.emod_lt_of_pos f (show 0 < prodI s by omega);have n2:=Int.emod_lt_of_pos g (show 0 < prodI s by omega);simp only [dig,lessL];have hle:f / prodI s≤g / prodI s:=Int.ediv_le_ediv y5 y5;by_cases e:f / prodI s=g / prodI s
  ·rw [if_neg (by simp [e])];rw [e] at d1;exact dig_less (fun n hn=>hp n (jG _ hn)) m1 y5 n2
  ·rw [if_pos e];exact decide_eq_true y5
def hits (p:Qb) (i:List Int) (c:Qg):Prop:=∃ v ok,ZT (p.access,i)=some (v,ok)∧(if ok=false then c=⟨true,0,0⟩ else c=⟨false,p.access.buffer,v⟩)
structure smA (acc:Qm):Prop where
 b:0≤acc.buffer∧acc.buffer≤1000000000000
 o:-1000000000000≤acc.base∧acc.base≤1000000000000
 t:-1000000000000≤acc.start∧acc.start≤1000000000000
 s:-1000000000000≤acc.step∧acc.step≤1000000000000
 m:-1000000000000≤acc.mod∧acc.mod≤1000000000000
 l:acc.strides.length≤1000
 x:∀ x∈acc.strides,-1000000000000≤x∧x≤1000000000000
structure rgtA (a:Qm) (n:Nat):Prop where
 k:a.kind=1∨((a.kind=2∨a.kind=3)∧a.strides.length=n)
 s:smA a
 m:a.kind=3→1≤a.mod
theorem right_fill {n:Nat} (hn:n≤16):rgtA ⟨1,0,0,[],0,0,0⟩ n:=⟨.inl rfl,⟨by simp,by simp,by simp,by simp,by simp,by simp,by simp⟩,fun h=>absurd h y9⟩
theorem right_2 {n:Nat} (hn:n≤16) {b o:Int} {st:List Int} (hs:smA ⟨2,b,o,st,0,0,0⟩) (hl:st.length=n):rgtA ⟨2,b,o,st,0,0,0⟩ n:=⟨.inr ⟨.inl rfl,hl⟩,hs,fun h=>absurd (show (2:Int)=3 from h) y9⟩
theorem right_3 {n:Nat} (hn:n≤16) {b o t m:Int} {st:List Int} (hs:smA ⟨3,b,o,st,0,t,m⟩) (hl:st.length=n) (hm:1≤m):rgtA ⟨3,b,o,st,0,t,m⟩ n:=⟨.inr ⟨.inr rfl,hl⟩,hs,fun _=>hm⟩
structure Cov (s:List Int) (cf:Nat→Qg) (p:Qb) (F z:Nat):Prop where
 hz1:1≤z
 box:okB s p.box.lo p.box.hi
 lo:p.box.lo=dig s (F:Int)
 inb:∀ f:Nat,(f:Int) < prodI s→inB p.box.lo p.box.hi (dig s (f:Int))=decide (F≤f∧f < F+z)
 acc:rgtA p.access s.length
 str:p.access.strides.length≤1000
 hit:∀ f:Nat,F≤f→f < F+z→hits p (dig s (f:Int)) (cf f)
def Til (s:List Int) (cf:Nat→Qg) (N:Nat):Nat→List Qb→Prop
 | F,[]=>F=N
 | F,p::P=>∃ z,Cov s cf p F z∧F+z≤N∧Til s cf N (F+z) P
section
variable {s:List Int} {cf:Nat→Qg} {N:Nat}
end
-- Plain laws: the pieces of a reshape tile its shape.
theorem W_cong {n m:Int} (h:n % 18446744073709551616=m % 18446744073709551616):W n=W m:=by
 simp only [W,IntKind.wrap,IntKind.bits,IntKind.signed]; simp; rw [h]
theorem W_self (n:Int):W n % 18446744073709551616=n % 18446744073709551616:=by
 simp only [W,IntKind.wrap,IntKind.bits,IntKind.signed]; simp; split <;> omega
theorem dotF_mod:∀ (s t:List Int) (x:Int),dotF s t x % 18446744073709551616=(x+dotE s t) % 18446744073709551616
 | a::s,b::t,x=>by
  rw [dotF,dotE,dotF_mod s t];have h1:=W_self (x+W (a * b));have h2:=W_self (a * b);generalize a * b=y at *;generalize W y=z at *;generalize W (x+z)=u at *;generalize dotE s t=e at *;omega
 | [],_,x=>by simp [dotF,dotE]
 | _::_,[],x=>by simp [dotF,dotE]
theorem W_dot {b:Int} {s t:List Int} {v:Int} (h:b+dotE s t=v) (h1:-1000000000000≤v) (h2:v≤1000000000000):W (b+dotF s t 0)=v:=by
 have h3:=dotF_mod s t 0;rw [W_cong (m:=v) y5,W_in h1 h2]
theorem dotE_dig:∀ {s:List Int},(∀ n∈s,1≤n)→∀ j:Int,0≤j→j < prodI s→dotE (strd s) (dig s j)=j
 | [],_,j,h0,h1=>by rw [prodI_nil] at h1; simp only [dig,strd,dotE]; omega
 | n::s,hp,j,h0,h1=>by
  have hs:=prodI_pos (fun n hn=>hp n (jG _ hn));have hm:=Int.emod_nonneg j (show prodI s≠0 by omega);have hl:=Int.emod_lt_of_pos j (show 0 < prodI s by omega);have he:=Int.emod_add_mul_ediv j (prodI s);rw [dig,strd,dotE,dotE_dig (fun n hn=>hp n (jG _ hn)) _ hm hl];omega
theorem dotE_scale (k:Int):∀ (s t:List Int),dotE (s.map (· * k)) t=k * dotE s t
 | a::s,b::t=>by
  simp only [zS,dotE];rw [dotE_scale k s t,Int.mul_add,Int.mul_comm a k,Int.mul_assoc]
 | [],_=>by simp [dotE]
 | _::_,[]=>by simp [dotE]
theorem dotE_last:∀ (rk:Nat) (q:List Int) (st x:Int),q.length=rk→dotE (List.replicate rk 0++[st]) (q++[x])=st * x
 | 0,q,st,x,h=>by
  rw [List.eq_nil_of_length_eq_zero h]; simp [dotE]
 | rk+1,[],st,x,h=>by simp at h
 | rk+1,y::q,st,x,h=>by
  rw [List.replicate_succ,List.cons_append,List.cons_append,dotE,dotE_last rk q st x (by simpa using h)];omega
theorem strd_mem:∀ {s:List Int},(∀ n∈s,1≤n)→prodI s≤65536→∀ x∈strd s,1≤x∧x≤65536
 | [],_,_,x,hx=>by simp [strd] at hx
 | n::s,hp,hP,x,hx=>by
  have hs:=fun m hm=>hp m (jG n hm)
  have h1:=prodI_pos hs
  have h2:prodI s≤prodI (n::s):=by
   have:=prod_le (a:=[n]) (b:=s) (fun m hm=>by simp at hm; subst hm; exact hp _ (jM ..)) hs
   simpa using this
  rw [strd] at hx;rcases List.mem_cons.1 hx with rfl|hx
  ·omega
  ·exact strd_mem hs y5 x hx
theorem hits_fill (bx:Qi) (i:List Int) (hi:i.length≤1000):hits ⟨bx,⟨1,0,0,[],0,0,0⟩⟩ i ⟨true,0,0⟩:=by
 refine ⟨0,false,?_,rfl⟩;simp only [ZT,rDot_ok (a:=[]) (b:=i) y7 hi,Qe,if_true]
theorem hits_2 (bx:Qi) {b o v:Int} {st i:List Int} (hs:st.length≤1000) (hi:i.length≤1000) (h:o+dotE st i=v) (h1:-1000000000000≤v) (h2:v≤1000000000000):hits ⟨bx,⟨2,b,o,st,0,0,0⟩⟩ i ⟨false,b,v⟩:=by
 refine ⟨v,true,?_,by simp⟩;have g4:¬ ((2:Int)=1):=by omega
 simp only [ZT,rDot_ok hs hi,Qe,g4,if_false,if_true,W_dot h h1 h2]
theorem hits_3 (bx:Qi) {b o t v:Int} {n f:Nat} {st i:List Int} (hs:st.length≤1000) (hi:i.length≤1000) (h:dotE st i=(f:Int)) (hf:f≤65536) (hn:1≤n∧n≤600) (ho:0≤o∧o≤100000) (ht:-100000≤t∧t≤100000) (hv:o+((f % n:Nat):Int) * t=v):hits ⟨bx,⟨3,b,o,st,0,t,(n:Int)⟩⟩ i ⟨false,b,v⟩:=by
 refine ⟨v,true,?_,by simp⟩;have g4:¬ ((3:Int)=1):=by omega
 have g5:¬ ((3:Int)=2):=by omega
 have hd:W (0+dotF st i 0)=(f:Int):=W_dot (b:=0) y5 y5 y5;have hr:remM (f:Int) (n:Int)=some ((f % n:Nat):Int):=by rw [remM_ok y5 y5,Int.natCast_emod]
 have hmn:=Nat.mod_lt f (show n > 0 by omega);have g6:¬ (((f % n:Nat):Int) < 0):=by omega
 have hm:=mul_b (a:=((f % n:Nat):Int)) (b:=t) (A:=600) (B:=100000) y5 y5 ht.1 ht.2;have w1:W (t * ((f % n:Nat):Int))=((f % n:Nat):Int) * t:=by rw [Int.mul_comm]; exact W_in y5 y5
 have w2:W (o+((f % n:Nat):Int) * t)=v:=by rw [hv]; exact W_in y5 y5
 simp only [ZT,rDot_ok hs hi,Qe,g4,g5,if_false,hd,hr,g6,w1,w2]
theorem okB_app:∀ {s lo hi:List Int} {n l h:Int},okB s lo hi→0≤l∧l < h∧h≤n→okB (s++[n]) (lo++[l]) (hi++[h])
 | [],[],[],n,l,h,_,H=>⟨H,trivial⟩
 | _::s,_::lo,_::hi,n,l,h,H1,H=>⟨H1.1,okB_app H1.2 H⟩
 | [],_::_,_,_,_,_,h,_=>by simp [okB] at h
 | [],[],_::_,_,_,_,h,_=>by simp [okB] at h
 | _::_,[],_,_,_,_,h,_=>by simp [okB] at h
 | _::_,_::_,[],_,_,_,h,_=>by simp [okB] at h
theorem okB_one:∀ {s i:List Int},vld s i=true→okB s i (i.map (·+1))
 | [],[],_=>trivial
 | n::s,x::i,h=>by
  simp only [vld,jE,zA] at h;simp only [zS,okB];exact ⟨by omega,okB_one h.2⟩
 | [],_::_,h=>by cases h
 | _::_,[],h=>by cases h
theorem okB_whole:∀ {s:List Int},(∀ n∈s,1≤n)→okB s (List.replicate s.length 0) s
 | [],_=>trivial
 | n::s,h=>by
  rw [zE,List.replicate_succ];exact ⟨by have:=h n y7; omega,okB_whole fun m hm=>h m (jG _ hm)⟩
theorem inB_whole:∀ {s i:List Int},vld s i=true→inB (List.replicate s.length 0) s i=true
 | [],[],_=>rfl
 | n::s,x::i,h=>by
  simp only [vld,jE,zA] at h;rw [zE,List.replicate_succ,inB,inB_whole h.2];simp [h.1]
 | [],_::_,h=>by cases h
 | _::_,[],h=>by cases h
theorem inB_app:∀ {lo hi i:List Int} {l h x:Int},lo.length=i.length→hi.length=i.length→inB (lo++[l]) (hi++[h]) (i++[x])=(inB lo hi i && (decide (l≤x) && decide (x < h)))
 | [],[],[],l,h,x,_,_=>by simp [inB]
 | a::lo,b::hi,c::i,l,h,x,h1,h2=>by
  simp only [List.cons_append,inB];rw [inB_app (by simpa using h1) (by simpa using h2)];simp only [Bool.and_assoc]
 | [],_::_,[],_,_,_,_,h=>by simp at h
 | [],_,_::_,_,_,_,h,_=>by simp at h
 | _::_,_,[],_,_,_,h,_=>by simp at h
 | _::_,[],_::_,_,_,_,_,h=>by simp at h
theorem inB_one:∀ {i j:List Int},i.length=j.length→(inB i (i.map (·+1)) j=true↔i=j)
 | [],[],_=>by simp [inB]
 | a::i,b::j,h=>by
  have:=inB_one (i:=i) (j:=j) (by simpa using h);simp only [zS,inB,jE,zA,this,List.cons.injEq];constructor
  ·rintro ⟨h1,h2⟩; exact ⟨by omega,h2⟩
  ·rintro ⟨h1,h2⟩; exact ⟨by omega,h2⟩
 | [],_::_,h=>by simp at h
 | _::_,[],h=>by simp at h
theorem less_irr:∀ a:List Int,lessL a a=false
 | []=>rfl
 | x::a=>by rw [lessL,if_neg y7,less_irr a]
theorem dig_inj {s:List Int} (hp:∀ n∈s,1≤n) {f g:Int} (hf:0≤f∧f < prodI s) (hg:0≤g∧g < prodI s) (h:dig s f=dig s g):f=g:=by
 rcases Int.lt_trichotomy f g with c|c|c
 ·have:=dig_less hp hf.1 c hg.2;rw [h,less_irr] at this; cases this
 ·exact c
 ·have:=dig_less hp hg.1 c hf.2;rw [h,less_irr] at this; cases this
theorem dig_zero:∀ s:List Int,dig s 0=List.replicate s.length 0
 | []=>rfl
 | n::s=>by rw [dig,zE,List.replicate_succ,Int.zero_ediv,Int.zero_emod,dig_zero s]
section
variable {l:List Qg} {R:List Qk} {a:List Int} {w B:Nat}
def cellF (l:List Qg) (f:Nat):Qg:=ce l (f % l.length)
theorem Ctx.digs (C:Ctx l R a w B) {b x:Nat} (hb:b < B) (hx:x < w):dig (a++[(w:Int)]) ((b * w+x:Nat):Int)=dig a (b:Int)++[(x:Int)]:=by
 have h:=C.bw hb hx;have h1:=C.ix hb hx;rw [allL_get C.posw _ (by rw [C.P]; omega)] at h1;exact jS h1
theorem acc_small {r:Qk} (h:bndR r) {o x rk:Nat} (ho:o≤600) (hx:x≤65536) (hrk:rk≤100) (hf:r.fill=false):smA ⟨2,r.buffer,r.offset+o * r.step - r.step * x,List.replicate rk 0++[r.step],0,0,0⟩:=by
 have h1:=mul_b (a:=(o:Int)) (b:=r.step) (A:=600) (B:=100000) y5 y5 h.s.1 h.s.2;have h2:=mul_b (a:=r.step) (b:=(x:Int)) (A:=100000) (B:=65536) h.s.1 h.s.2 y5 y5;have h3:=h.o;have h4:=h.b;have h5:=h.s;refine ⟨by simp only; omega,by simp only; omega,by simp,by simp,by simp,by simp; omega,fun y hy=>?_⟩;simp only [List.mem_append,List.mem_replicate,jX] at hy;rcases hy with ⟨_,rfl⟩|rfl <;> omega
theorem seg_cov (C:Ctx l R a w B) {b x z:Nat} (hb:b < B) (hz:1≤z) (hx:x+z≤w) (ho:((pos R ((b * w+x) % l.length)).2:Int)+z≤(runAt R ((b * w+x) % l.length)).len) :
  Cov (a++[(w:Int)]) (cellF l) (segP (dig a (b:Int)) (x,z,runAt R ((b * w+x) % l.length),(pos R ((b * w+x) % l.length)).2)) (b * w+x) z:=by
 have hn:=C.hn;have hl:=C.hl;have hBw:=C.hBw;have hbw:=C.bw (b:=b) (x:=x) hb y5;have hml:=Nat.mod_lt (b * w+x) hn;have hdl:(dig a (b:Int)).length=a.length:=dig_len _ _;obtain ⟨a1,a2,a3,a4,a5,a6⟩:=runAt_spec C.hR hml;obtain ⟨c1,c2,c3⟩:=checkR_ok C.hc;have hxl:x≤65536:=by have:=Nat.le_add_left x (b * w); omega
 have hal:(a++[(w:Int)]).length=a.length+1:=by simp
 have hsm:((pos R ((b * w+x) % l.length)).2)≤600:=by omega
 refine ⟨hz,?_,?_,fun f hf=>?_,?_,?_,fun f h1 h2=>?_⟩
 ·show okB (a++[(w:Int)]) (dig a (b:Int)++[(x:Int)]) ((dig a (b:Int)).map (·+1)++[((x+z:Nat):Int)])
  exact okB_app (okB_one (vld_dig C.hpos y5 (by rw [C.hB]; omega))) ⟨by omega,by omega,by omega⟩
 ·exact (C.digs hb y5).symm
 ·rw [C.P] at hf;have hw:=C.hw;obtain ⟨b',x',hfb,hfx,rfl⟩:∃ b' x',b' < B∧x' < w∧f=b' * w+x':=⟨f / w,f % w,by rw [Nat.div_lt_iff_lt_mul y5]; omega,Nat.mod_lt _ y5,by rw [Nat.mul_comm]; exact (Nat.div_add_mod f w).symm⟩;rw [C.digs hfb hfx];show inB (dig a (b:Int)++[(x:Int)]) ((dig a (b:Int)).map (·+1)++[((x+z:Nat):Int)]) (dig a (b':Int)++[(x':Int)])=_
  rw [inB_app (by rw [hdl,dig_len]) (by rw [jY,hdl,dig_len])]
  have h1:inB (dig a (b:Int)) ((dig a (b:Int)).map (·+1)) (dig a (b':Int))=decide (b=b'):=by
   rw [Bool.eq_iff_iff,inB_one (by rw [hdl,dig_len]),zA];constructor
   ·intro h;have:=dig_inj C.hpos (f:=(b:Int)) (g:=(b':Int)) (by rw [C.hB]; omega) (by rw [C.hB]; omega) h;omega
   ·rintro h; rw [← h]
  rw [h1,← Bool.decide_and,← Bool.decide_and];refine decide_eq_decide.2 ?_;constructor
  ·rintro ⟨rfl,h2,h3⟩; omega
  ·rintro ⟨h2,h3⟩
   have hb':b=b':=by
    rcases Nat.lt_trichotomy b b' with c|c|c
    ·have:(b+1) * w≤b' * w:=Nat.mul_le_mul_right _ y5
     rw [Nat.add_mul,Nat.one_mul] at this;omega
    ·exact c
    ·have:(b'+1) * w≤b * w:=Nat.mul_le_mul_right _ y5
     rw [Nat.add_mul,Nat.one_mul] at this;omega
   subst hb';omega
 ·show rgtA (accR (runAt R ((b * w+x) % l.length)) (pos R ((b * w+x) % l.length)).2 (dig a (b:Int)).length x) (a++[(w:Int)]).length
  unfold accR;split
  ·exact right_fill c1
  ·rename_i hf;rw [hdl];exact right_2 c1 (acc_small a5 hsm hxl y5 (by simpa using hf)) y7
 ·show (accR _ _ _ _).strides.length≤1000
  unfold accR;split
  ·simp
  ·simp [hdl]; omega
 ·obtain ⟨j,rfl⟩:∃ j,f=b * w+x+j:=⟨f - (b * w+x),by omega⟩;have hj:j < z:=by omega
  have hof:=offs C.hR hn (b * w+x) j y5;have hr:runAt R ((b * w+x+j) % l.length)=runAt R ((b * w+x) % l.length):=by simp only [runAt,hof]
  obtain ⟨d1,d2,d3,d4,d5,d6⟩:=runAt_spec C.hR (Nat.mod_lt (b * w+x+j) hn);have hd:=C.digs (b:=b) (x:=x+j) hb y5;rw [← Nat.add_assoc] at hd;unfold cellF;rw [d4,hr,hof,hd];show hits ⟨_,accR (runAt R ((b * w+x) % l.length)) (pos R ((b * w+x) % l.length)).2 (dig a (b:Int)).length x⟩ _ _
  rw [hr,hof] at d3;simp only at d3;unfold accR cellRn;by_cases hf:(runAt R ((b * w+x) % l.length)).fill=true
  ·simp only [hf,if_true];exact hits_fill _ _ (by simp [hdl]; omega)
  ·simp only [hf,if_false,j6];generalize runAt R ((b * w+x) % l.length)=r at *;generalize (pos R ((b * w+x) % l.length)).2=o at *;have h1:=mul_b (a:=((o+j:Nat):Int)) (b:=r.step) (A:=600) (B:=100000) y5 y5 a5.s.1 a5.s.2;have h3:=a5.o;refine hits_2 _ (by simp [hdl]; omega) (by simp [hdl]; omega) ?_ y5 y5;rw [hdl,dotE_last a.length _ _ _ hdl]
   have e1:r.step * ((x+j:Nat):Int)=r.step * x+j * r.step:=by
    rw [Int.natCast_add,Int.mul_add,Int.mul_comm r.step (j:Int)]
   have e2:((o+j:Nat):Int) * r.step=o * r.step+j * r.step:=by rw [Int.natCast_add,Int.add_mul]
   rw [e1,e2];omega
theorem segs_til (C:Ctx l R a w B) {b:Nat} (hb:b < B):∀ (k x wr:Nat) (Q:List Qb),x+wr=w→wr≤k→Til (a++[(w:Int)]) (cellF l) (B * w) (b * w+w) Q→Til (a++[(w:Int)]) (cellF l) (B * w) (b * w+x) ((segs R l.length k (b * w+x) x wr).map (segP (dig a (b:Int)))++Q)
 | 0,x,wr,Q,h1,h2,h3=>by
  have:x=w:=by omega
  subst this
  simpa [segs] using h3
 | k+1,x,wr,Q,h1,h2,h3=>by
  by_cases h0:wr=0
  ·have:x=w:=by omega
   subst this
   simpa [segs,h0] using h3
  ·rw [segs,if_neg h0];have hml:=Nat.mod_lt (b * w+x) C.hn;obtain ⟨a1,a2,a3,a4,a5,a6⟩:=runAt_spec C.hR hml;have hbw:=C.bw (b:=b) (x:=w - 1) hb (by have:=C.hw; omega);generalize hz:min wr ((runAt R ((b * w+x) % l.length)).len.toNat - (pos R ((b * w+x) % l.length)).2)=z;have ih:=segs_til C hb k (x+z) (wr - z) Q y5 y5 h3;rw [← Nat.add_assoc] at ih;rw [zS,List.cons_append];exact ⟨z,seg_cov C hb y5 y5 y5,by omega,ih⟩
theorem rows_til (C:Ctx l R a w B):∀ (m b:Nat),b+m=B→Til (a++[(w:Int)]) (cellF l) (B * w) (b * w) (rowsP R l.length a w b m)
 | 0,b,h=>by
  have:b=B:=by omega
  subst this;simp only [rowsP,List.range'_zero,List.flatMap_nil,Til]
 | m+1,b,h=>by
  have ih:=rows_til C m (b+1) y5;rw [Nat.add_mul,Nat.one_mul] at ih;have:=segs_til C (b:=b) y5 w 0 w _ y5 (j7 _) ih;simp only [rowsP,List.range'_succ,List.flatMap_cons];exact this
end
theorem whole_til {s:List Int} {cf:Nat→Qg} {N:Nat} (hp:∀ n∈s,1≤n) (hN:(N:Int)=prodI s) (acc:Qm) (hacc:rgtA acc s.length) (hstr:acc.strides.length≤1000) (hit:∀ f:Nat,f < N→hits ⟨⟨List.replicate s.length 0,s⟩,acc⟩ (dig s (f:Int)) (cf f)) :
  Til s cf N 0 [⟨⟨List.replicate s.length 0,s⟩,acc⟩]:=by
 have h1:=prodI_pos hp;refine ⟨N,⟨by omega,okB_whole hp,(dig_zero s).symm,fun f hf=>?_,hacc,hstr,fun f _ h2=>hit f y5⟩,by omega,by simp only [Til]; omega⟩;rw [inB_whole (vld_dig hp y5 hf)];exact (decide_eq_true y5).symm
-- Plain law: RunsReshape.
def fillR (s:List Int):Qb:=⟨⟨List.replicate s.length 0,s⟩,⟨1,0,0,[],0,0,0⟩⟩
theorem rwhole_ok (s:List Int) (a:Qm) (h:s.length≤600):YL (s,a)=some [⟨⟨List.replicate s.length 0,s⟩,a⟩]:=by
 simp only [YL,make_ok (show s.length≤1000 by omega),Qe]
theorem rS_L2 (o:List Int) (k:Int) (c:Nat):∀ (s p:List Int) (v:Int),p.length+s.length≤600→(∀ n∈s,1≤n)→1≤v→v * prodI s≤65536→QM (p++s,c,o,k,v,(p.length:Int))=some (v * prodI s)
 | [],p,v,h,hp,h1,h2=>by
  rw [QM];simp only [Q4,if_false,Qe,j6,prodI_nil,Int.mul_one]
 | x::s,p,v,h,hp,h1,h2=>by
  rw [QM];have hx:=hp x (jM ..);have hs:=prodI_pos (fun n hn=>hp n (jG _ hn));rw [prodI_cons,← Int.mul_assoc] at h2;have b1:1≤v * x:=by have:=Int.mul_le_mul h1 hx y5 y5; omega
  have b2:(v * x) * 1≤v * x * prodI s:=Int.mul_le_mul_of_nonneg_left hs y5;have w2:W (v * x)=v * x:=W_ok y5 y5;have e:=rS_L2 o k c s (p++[x]) (v * x) (by simp at h ⊢; omega) (fun n hn=>hp n (jG _ hn)) b1 h2;rw [← Qr] at e;simp only [QU,if_true,show v > 0 by omega,decide_true,Qe,Qy,YF h,w2,e,prodI_cons,Int.mul_assoc]
theorem rS_L1:∀ (s p out:List Int) (c:Nat),p.length+s.length≤600→checkR (p++s)=0→(∀ n∈p++s,1≤n)→out.length≤p.length→∃ g,QF (p++s,c,out,(p.length:Int))=some (g,out++strd s)
 | [],p,out,c,h,hc,hp,ho=>by
  rw [QF];simp only [Q4,if_false];simp only [strd,jU];exact ⟨_,rfl⟩
 | x::s,p,out,c,h,hc,hp,ho=>by
  rw [QF];have hS:Sm (p++x::s).length:=Sm_of (show (p++x::s).length≤1000 by simp at h ⊢; omega);have hP:=prodI_pos hp;have hps:∀ n∈s,1≤n:=fun n hn=>hp n (by simp [hn])
  have hle:prodI s≤65536:=by
   have:=prod_le (a:=p++[x]) (b:=s) (fun n hn=>hp n (by simp at hn ⊢; rcases hn with h|h <;> simp [h])) hps;rw [← Qr] at this;have:=(checkR_ok hc).2.1; omega
  have hcell:Zs (p++x::s)=some (prodI (p++x::s)):=by rw [Cells_ok _ hS,cellsR,if_pos hc]
  have e2:=rS_L2 out (p.length:Int) c s (p++[x]) 1 (by simp at h ⊢; omega) hps y5 y5;rw [← Qr,Int.one_mul] at e2;obtain ⟨g,e⟩:=rS_L1 s (p++[x]) (out++[prodI s]) (gb c ([prodI s]:List Int).isEmpty) (by simp at h ⊢; omega) (by rw [← Qr]; exact hc) (by rw [← Qr]; exact hp) y6;rw [← Qr] at e;simp only [QU,if_true,hcell,Qe,show ¬ prodI (p++x::s)=0 by omega,if_false,YF h,e2];rw [app_le (by simp at h ⊢; omega) y5,Qe,e,strd];exact ⟨g,by simp⟩
theorem rStr_ok {s:List Int} (hc:checkR s=0) (hp:∀ n∈s,1≤n):∃ g,ZS s=some (g,strd s):=by
 obtain ⟨h1,h2,h3⟩:=checkR_ok hc;obtain ⟨g,e⟩:=rS_L1 s [] [] 0 y6 hc hp y7;have e':QF (s,0,[],0)=some (g,strd s):=e;have hS:Sm s.length:=Sm_of (show s.length≤1000 by omega);exact ⟨g,by simp only [ZS,Check_ok s hS,Qe,hc,ne_eq,not_true,if_false,e']⟩
theorem scal_L1 (k:Int) (v:List Int):∀ (t p:List Int),(p++t).length=v.length→(p++t).length≤600→(∀ x∈t,-1000000000000≤x * k∧x * k≤1000000000000)→Zp (v,k,p.map (· * k)++t,(p.length:Int))=some ((p++t).map (· * k))
 | [],p,h1,h2,h3=>by
  rw [Zp]
  have:¬ ((p.length:Int) < (v.length:Int)):=by rw [← h1]; simp
  simp only [this,if_false]; simp only [jU]
 | x::t,p,h1,h2,h3=>by
  rw [Zp];have hlt:((p.length:Int) < (v.length:Int)):=by rw [← h1]; simp; omega
  have g1:ZY ((p.map (· * k)++x::t).length=v.length)=some ():=guardM_ok (by rw [← h1]; simp);have i1:idx (p.map (· * k)++x::t) (p.length:Int)=some x:=idx_of y7;have hx:=h3 x y7;have hW:W (x * k)=x * k:=W_in hx.1 hx.2
  have s1:setM (p.map (· * k)++x::t) (p.length:Int) (x * k)=some ((p++[x]).map (· * k)++t):=by
   rw [setM_ok y7];have:=mid_set (p:=p.map (· * k)) (s:=t) (x:=x) (y:=x * k);rw [jY] at this;rw [this]; simp
  have hWp:W ((p.length:Int)+1)=((p++[x]).length:Int):=by simp at h2; rw [W_in y5 y5]; simp
  have ih:=scal_L1 k v t (p++[x]) (by simpa using h1) (by simpa using h2) (fun y hy=>h3 y (jG _ hy));rw [← Qr] at ih;simp only [hlt,if_true,g1,Qe,i1,hW,s1,hWp];exact ih
theorem strd_sc {s:List Int} (hc:checkR s=0) (hp:∀ n∈s,1≤n) {k:Int} (hk:-100000≤k∧k≤100000):∀ x∈strd s,-1000000000000≤x * k∧x * k≤1000000000000:=fun x hx=>by
 obtain ⟨h1,h2,h3⟩:=checkR_ok hc;have hm:=strd_mem hp h2 x hx;have:=mul_b (a:=x) (b:=k) (A:=65536) (B:=100000) y5 y5 hk.1 hk.2;omega
theorem scaled_ok {s:List Int} (hc:checkR s=0) (hp:∀ n∈s,1≤n) {k:Int} (hk:-100000≤k∧k≤100000):Yx (s,k)=some ((strd s).map (· * k)):=by
 obtain ⟨h1,h2,h3⟩:=checkR_ok hc;obtain ⟨g,eg⟩:=rStr_ok hc hp;have hl:=strd_len s;have e:=scal_L1 k (strd s) (strd s) [] rfl y6 (strd_sc hc hp hk);have e':Zp (strd s,k,strd s,0)=some ((strd s).map (· * k)):=e;simp only [Yx,eg,Qe,e'];rw [guardM_ok y7]; rfl
def acc1 (r:Qk) (s:List Int):Qm:=if r.fill=true then ⟨1,0,0,[],0,0,0⟩ else if r.step=0∨prodI s≤r.len then ⟨2,r.buffer,r.offset,(strd s).map (· * r.step),0,0,0⟩ else ⟨3,r.buffer,r.offset,strd s,0,r.step,r.len⟩
def one1 (r:Qk) (s:List Int):Qb:=⟨⟨List.replicate s.length 0,s⟩,acc1 r s⟩
theorem QbK {r:Qk} {s:List Int} {n:Nat} (hc:checkR s=0) (hp:∀ n∈s,1≤n) (hb:bndR r) (hn:1≤n) (hl:r.len=(n:Int)) (ht:Yn [r]=some (n:Int)):QT ([r],s)=some [one1 r s]:=by
 obtain ⟨h1,h2,h3⟩:=checkR_ok hc;have hS:Sm s.length:=Sm_of (show s.length≤1000 by omega);have hP:=prodI_pos hp;have k1:¬ (prodI s=0):=by omega
 have k2:¬ ((n:Int)=0):=by omega
 have k3:((([r]:List Qk).length:Nat):Int)=1:=rfl;have i0:idx [r] 0=some r:=rfl;simp only [QT,Cells_ok s hS,cellsR,hc,if_true,Qe,k1,if_false,ht,k2,k3,i0];unfold one1 acc1;by_cases hf:r.fill=true
 ·simp only [hf,if_true,rwhole_ok s _ (show s.length≤600 by omega),Qe]
 ·simp only [hf,if_false,scaled_ok hc hp hb.s,scaled_ok hc hp (show -100000≤(1:Int)∧(1:Int)≤100000 by omega),Qe];by_cases h0:r.step=0
  ·simp only [h0,ne_eq,not_true,if_false,Qe,j6,true_or,if_true,rwhole_ok s _ (show s.length≤600 by omega)]
  ·by_cases h1:prodI s≤r.len
   ·have:¬ (prodI s > (n:Int)):=by omega
    simp only [h0,ne_eq,zB,if_true,this,zY,Qe,j6,if_false,h1,or_true,rwhole_ok s _ (show s.length≤600 by omega)]
   ·have:prodI s > (n:Int):=by omega
    have hm:(strd s).map (· * (1:Int))=strd s:=by simp
    have h1':¬ (prodI s≤(n:Int)):=by omega
    simp only [h0,ne_eq,zB,if_true,this,decide_true,Qe,h1',or_self,if_false,j6,rwhole_ok s _ (show s.length≤600 by omega),hm,hl]
theorem one_til {l:List Qg} {r:Qk} {s:List Int} {N:Nat} (hl:l.length≤600) (hR:RunsAt l 0 [r]) (hc:checkR s=0) (hp:∀ n∈s,1≤n) (hN:(N:Int)=prodI s):Til s (cellF l) N 0 [one1 r s]:=by
 obtain ⟨h1,h2,h3⟩:=checkR_ok hc;obtain ⟨m,⟨e1,e2⟩,⟨k1,k2⟩,hce,hb,hend⟩:=hR;simp only [RunsAt] at hend;have hm:m=l.length:=by omega
 subst hm;have hsl:=strd_len s
 have hcr:∀ f:Nat,cellF l f=cellRn r (f % l.length):=fun f=>by
  have:=hce (f % l.length) (Nat.mod_lt _ k1);rw [zW] at this;exact this
 unfold one1;refine whole_til hp hN _ ?_ ?_ (fun f hf=>?_)
 ·unfold acc1;split
  ·exact right_fill h1
  ·split
   ·refine right_2 h1 ⟨by have:=hb.b; simp only; omega,by have:=hb.o; simp only; omega,by simp,by simp,by simp,by simp [hsl]; omega,fun x hx=>?_⟩ (by simp [hsl]);simp only [List.mem_map] at hx;obtain ⟨y,hy,rfl⟩:=hx;exact strd_sc hc hp hb.s y hy
   ·refine right_3 h1 ⟨by have:=hb.b; simp only; omega,by have:=hb.o; simp only; omega,by simp,by have:=hb.s; simp only; omega,by simp only; omega,by simp only [hsl]; omega,fun x hx=>?_⟩ hsl y5;have:=strd_mem hp h2 x hx;omega
 ·unfold acc1;split
  ·simp
  ·split
   ·simp [hsl]; omega
   ·simp only [hsl]; omega
 ·rw [hcr];have hdl:(dig s (f:Int)).length=s.length:=dig_len _ _;have hde:=dotE_dig hp (f:Int) y5 y5;have hml:=Nat.mod_lt f k1;unfold acc1 cellRn;by_cases hf1:r.fill=true
  ·simp only [hf1,if_true];exact hits_fill _ _ (by rw [hdl]; omega)
  ·simp only [hf1,if_false,j6];have ho:=hb.o;have hs:=hb.s;by_cases hk:r.step=0∨prodI s≤r.len
   ·rw [if_pos hk]
    have hv:r.step * (f:Int)=((f % l.length:Nat):Int) * r.step:=by
     rcases hk with h0|h0
     ·rw [h0]; simp
     ·rw [Nat.mod_eq_of_lt y5,Int.mul_comm]
    have hmm:=mul_b (a:=((f % l.length:Nat):Int)) (b:=r.step) (A:=600) (B:=100000) y5 y5 hs.1 hs.2;refine hits_2 _ (by simp [hsl]; omega) (by rw [hdl]; omega) ?_ y5 y5;rw [dotE_scale,hde,hv]
   ·rw [if_neg hk,e2];exact hits_3 _ (by rw [hsl]; omega) (by rw [hdl]; omega) hde y5 ⟨k1,hl⟩ ho hs rfl

theorem nil_til {l:List Qg} {R:List Qk} (hl:l.length≤600) (hn:1≤l.length) (hR:RunsAt l 0 R):Til [] (cellF l) 1 0 [piece0 (runAt R 0)]:=by
 obtain ⟨a1,a2,a3,a4,a5,a6⟩:=runAt_spec hR (show 0 < l.length by omega);rw [pos_zero hR] at a4;refine whole_til (s:=[]) (fun n h=>by simp at h) (by simp [prodI_nil]) _ ?_ ?_ (fun f hf=>?_)
 ·split
  ·exact right_fill (n:=0) y5
  ·refine right_2 (n:=0) y5 ⟨by have:=a5.b; simp only; omega,by have:=a5.o; simp only; omega,by simp,by simp,by simp,by simp,by simp⟩ rfl
 ·split <;> simp
 ·have:f=0:=by omega
  subst this
  have hc:cellF l 0=cellRn (runAt R 0) 0:=by
   unfold cellF;rw [Nat.zero_mod]; exact a4
  rw [hc];unfold cellRn;by_cases hf:(runAt R 0).fill=true
  ·simp only [hf,if_true];exact hits_fill _ _ (by simp [dig])
  ·simp only [hf,if_false,j6];have:=a5.o;exact hits_2 _ y7 (by simp [dig]) (by simp [dotE]) y5 y5
theorem rPieces_nil {l:List Qg} {R:List Qk} (hl:l.length≤600) (hR:RunsAt l 0 R) (hR2:2≤R.length):QT (R,[])=some [piece0 (runAt R 0)]:=by
 have hlen:=runs_len hR;have hn:1≤l.length:=by omega
 obtain ⟨a1,a2,a3,a4,a5,a6⟩:=runAt_spec hR (show 0 < l.length by omega);have hc:checkR []=0:=by decide
 have hS:Sm ([]:List Int).length:=Sm_of (show ([]:List Int).length≤1000 by simp);have k1:¬ ((1:Int)=0):=by decide
 have k2:¬ ((l.length:Int)=0):=by omega
 have k3:¬ ((R.length:Int)=1):=by omega
 have hall:ZG []=some [[]]:=All_ok (s:=[]) y7 y9;have hp0:=pos_zero hR;have hrem:remM 0 (l.length:Int)=some 0:=by rw [remM_ok (Int.le_refl _) y5,Int.zero_emod]
 have hf0:=rfind_ok hl hR (show 0 < l.length by omega);rw [hp0] at hf0;have hf0':Yf (R,0)=some 0:=hf0;rw [hp0] at a1;have hrun:idx R 0=some (runAt R 0):=idx_of a1
 have hL2:∀ (g t:Nat),Q1 ([],[[]],0,R,(l.length:Int),t,[],0,0,[],[],g,[],0)=some (g,[]):=fun g t=>by
  rw [Q1]
  have:¬ ((0:Int) < (([]:List Int).length:Int)):=by simp
  simp only [this,if_false]
 have hend:∀ (g:Nat) (hi:List Int) (t n:Nat) (out:List Qb),Qt ([[]],(l.length:Int),R,[],g,hi,t,n,out,W (0+1))=some (g,hi,t,n,out):=fun g hi t n out=>by
  rw [Qt]
  have:¬ (W ((0:Int)+1) < (([[]]:List (List Int)).length:Int)):=by decide
  simp only [this,if_false]
 have hlt:((0:Int) < (([[]]:List (List Int)).length:Int)):=by decide
 have hneg:W ((([]:List Int).length:Int) - 1) < 0:=by decide
 have hge:¬ (W ((([]:List Int).length:Int) - 1)≥0):=by decide
 have hix:idx ([[]]:List (List Int)) 0=some []:=rfl;have g1:ZY (([]:List Int).length=0)=some ():=guardM_ok rfl;have gT:ZY True=some ():=guardM_ok trivial;have hmk:makeM 8 (([]:List Int).length:Int) (0:Int)=some []:=make_ok (n:=0) y5;have hat:(runAt R 0).at0_=0:=by rw [hp0] at a2; simpa using a2
 have w7:W (0 - (runAt R 0).at0_)=0:=by rw [hat]; decide
 have w8:W (0 * (runAt R 0).step)=0:=by rw [Int.zero_mul]; decide
 have w9:W ((runAt R 0).offset+0)=(runAt R 0).offset:=by have:=a5.o; rw [Int.add_zero]; exact W_in y5 y5
 have hfp:∀ p:Qb,flap 120 (fun (p_:Qb) (h_:List Int)=>(⟨⟨p_.box.lo,h_⟩,p_.access⟩:Qb)) [] [] p=some [p]:=fun p=>flap_ok y7
 have hL1:∃ g t,Qt ([[]],(l.length:Int),R,[],0,[],0,0,[],0)=some (g,[],t,0,[piece0 (runAt R 0)]):=by
  rw [Qt];unfold piece0;by_cases hf:(runAt R 0).fill=true
  ·simp only [hlt,if_true,hrem,Qe,hf0',hneg,hix,g1,gT,hL2,hrun,hf,reduceCtorEq,if_false,hfp,hend];exact ⟨_,_,rfl⟩
  ·have hf':(runAt R 0).fill=false:=by simpa using hf
   simp only [hlt,if_true,hrem,Qe,hf0',hneg,hix,g1,gT,hL2,hrun,hf',reduceCtorEq,if_false,hfp,hend,hmk,hge,w7,w8,w9,j6];exact ⟨_,_,rfl⟩
 obtain ⟨g,t,hL1⟩:=hL1;simp only [QT,Cells_ok _ hS,cellsR,hc,if_true,prodI_nil,Qe,k1,if_false,total_ok hl hR,k2,k3,j6,hall,hL1,g1];rfl
-- Plain law: RunsReshape, joined.
def cfL (l:List Qg) (f:Nat):Qg:=if l.length=0 then ⟨true,0,0⟩ else cellF l f
theorem pieces_ok {l:List Qg} {s:List Int} {N:Nat} (hl:l.length≤600) (hc:∀ c∈l,cellR c) (hs:checkR s=0) (hp:∀ n∈s,1≤n) (hN:(N:Int)=prodI s) (hall:ZG s=some (allL s)) :
  ∃ P,QT (ofR l,s)=some P∧Til s (cfL l) N 0 P:=by
 obtain ⟨h1,h2,h3⟩:=checkR_ok hs;have hS:Sm s.length:=Sm_of (show s.length≤1000 by omega);have hP:=prodI_pos hp;have k1:¬ (prodI s=0):=by omega
 by_cases h0:l.length=0
 ·have he:=List.eq_nil_of_length_eq_zero h0;subst he;have hof:ofR []=[]:=rfl;rw [hof];refine ⟨[fillR s],?_,?_⟩
  ·have e:=total_L1 [] y7 [] [] 0 (j7 _) (zN _) rfl;have e':Zg ([],0,0)=some 0:=e;simp only [QT,Cells_ok s hS,cellsR,hs,if_true,Qe,k1,if_false,Yn,e',rwhole_ok s _ (show s.length≤600 by omega)];rfl
  ·refine whole_til hp hN _ (right_fill h1) y7 (fun f hf=>?_);exact hits_fill _ _ (by rw [dig_len]; omega)
 ·have hn:1≤l.length:=by omega
  have hR:RunsAt l 0 (ofR l):=ofF_runs hc l.length 0 (zN _) y5;have hcf:cfL l=cellF l:=funext fun f=>by unfold cfL; rw [if_neg h0]
  rw [hcf];generalize hRR:ofR l=R at hR ⊢
  match R,hR with
  | [],hR=>simp only [RunsAt] at hR; omega
  | [r],hR =>
   have ht:=total_ok hl hR;have hR':=hR;obtain ⟨m,⟨e1,e2⟩,⟨q1,q2⟩,hce,hb,hend⟩:=hR';simp only [RunsAt] at hend;have hm:m=l.length:=by omega
   subst hm;exact ⟨[one1 r s],QbK hs hp hb hn e2 ht,one_til hl hR hs hp hN⟩
  | r::r'::R,hR =>
   have hR2:2≤(r::r'::R).length:=by simp
   rcases List.eq_nil_or_concat s with rfl|⟨a,w,rfl⟩
   ·have:N=1:=by rw [prodI_nil] at hN; omega
    subst this;exact ⟨[piece0 (runAt (r::r'::R) 0)],rPieces_nil hl hR hR2,nil_til hl hn hR⟩
   ·simp only [List.concat_eq_append] at *;have hw:=hp w y7;have hpa:∀ n∈a,1≤n:=fun n hn=>hp n (by simp [hn])
    have hPa:=prodI_pos hpa;obtain ⟨w',rfl⟩:∃ w':Nat,w=(w':Int):=⟨w.toNat,by omega⟩;obtain ⟨B,hB⟩:∃ B:Nat,prodI a=(B:Int):=⟨(prodI a).toNat,by omega⟩;have hPP:prodI (a++[(w':Int)])=((B * w':Nat):Int):=by rw [prodI_append,hB,prodI_cons,prodI_nil,Int.mul_one]; simp
    have hNN:N=B * w':=by omega
    subst hNN
    have hca:checkR a=0:=by
     have hle:prodI a≤65536:=by
      have hb1:B * 1≤B * w':=Nat.mul_le_mul_left _ y5;omega
     unfold checkR
     have n1:negB a=false:=by
      cases hq:negB a with
      | false=>rfl
      | true =>
       obtain ⟨d,hd,hd2⟩:=List.any_eq_true.1 hq;have:=hpa d hd; simp at hd2; omega
     have n2:bigB a=false:=by
      cases hq:bigB a with
      | false=>rfl
      | true =>
       obtain ⟨d,hd,hd2⟩:=List.any_eq_true.1 hq;have:=(h3 d (by simp [hd])).2; simp at hd2; omega
     rw [n1,if_neg y7,if_neg];rw [n2];simp at h1
     rintro (c|c|c)
     ·omega
     ·cases c
     ·omega
    have C:Ctx l (r::r'::R) a w' B:=⟨hl,hR,hn,by omega,hs,hca,hpa,hB,by omega⟩;refine ⟨_,rPieces_row C hR2 hall,?_⟩;have:=rows_til C B 0 y5
    rwa [Nat.zero_mul] at this
theorem W_W (x:Int):W (W x)=W x:=by simpa using W_add_l x 0
structure niA (a:Qn):Prop where
 b:W a.base=a.base
 s:W a.start=a.start
 m:a.kind=3→1≤a.mod∧a.mod≤1000000000000
 l:a.strides.length≤1000
theorem niA.n {a:Qn} (h:niA a):nrmA a:=And.intro h.b h.s
theorem add_ni {a:Qn} {n:Int} {st:List Int} (h:niA a) (hs:st.length≤1000):niA (addA a n st):=by
 unfold addA;split
 ·exact h
 ·split
  ·exact ⟨h.b,W_W _,h.m,hs⟩
  ·exact ⟨W_W _,h.s,h.m,hs⟩
theorem shf_ni {a:Qn} {k:Nat} {n:Int} (h:niA a):niA (shfA a k n):=add_ni h h.l
theorem flp_ni {a:Qn} {k:Nat} {n:Int} (h:niA a):niA (flpA a k n):=add_ni h (by simpa using h.l)
theorem shfs_ni:∀ (st:List Int) (a:Qn) (k:Nat),niA a→niA (shfs a k st)
 | [],_,_,h=>h
 | n::st,a,k,h=>by rw [shfs]; exact shfs_ni st _ _ (shf_ni h)
theorem per_ni {a:Qn} {p:List Int} {r:Nat} (h:niA a) (hr:r≤600):niA (perA a p r):=by
 unfold perA;split
 ·exact h
 ·exact ⟨h.b,h.s,h.m,by simp only [perS_len,zH]; omega⟩
theorem fill_ni (b:QY):niA (fillB b).access:=⟨by show W 0=0; decide,by show W 0=0; decide,fun h=>absurd (show (1:Int)=3 from h) y9,by simp [fillB,fillA]⟩
theorem whole_ni {b:Int} {s:List Int} (h:s.length≤600):niA (wholeP b s).access:=⟨by show W 0=0; decide,by show W 0=0; decide,fun h=>absurd (show (2:Int)=3 from h) y9,by show (strd s).length≤1000; rw [strd_len]; omega⟩
theorem dot_W (x:Int) (s t:List Int):W (x+dotF s t 0)=W (x+dotE s t):=by
 have:=dotF_mod s t 0;exact W_cong y5
theorem tmod_mod {a b:Int} (hb:1≤b):(if a.tmod b < 0 then a.tmod b+b else a.tmod b)=a % b:=by
 have h1:=Int.mul_tdiv_add_tmod a b;have h2:=Int.tmod_lt_of_pos a (show 0 < b by omega);have h3:=Int.lt_tmod_of_pos a (show 0 < b by omega);generalize a.tmod b=t at *;generalize a.tdiv b=q at *;subst h1;by_cases g:t < 0
 ·rw [if_pos g,show b * q+t=(t+b)+b * (q - 1) by rw [Int.mul_sub,Int.mul_one]; omega,Int.add_mul_emod_self_left,Int.emod_eq_of_lt y5 y5]
 ·rw [if_neg g,show b * q+t=t+b * q by omega,Int.add_mul_emod_self_left,Int.emod_eq_of_lt y5 y5]
theorem at_ok {a:Qn} {i:List Int} (ha:wfA i.length a) (hi:i.length≤600) (hn:niA a):∃ v ok,ZT (bkA a,i)=some (v,ok)∧atC a i=(if ok=false then (true,0,0) else (false,a.buffer,v)):=by
 have hm:=hn.m;have hnl:=hn.l;obtain ⟨kd,bu,ba,s,sa,sp,md⟩:=a;simp only at hnl;have ed:Xx (s,i)=some (dotF s i 0):=rDot_ok y5 y5;rcases ha with h|⟨h|h,h2⟩ <;> simp only at h <;> subst h
 ·refine ⟨0,false,?_,rfl⟩;simp only [ZT,ed,Qe,bkA,if_true]
 ·refine ⟨W (ba+dotF s i 0),true,?_,?_⟩
  ·simp only [ZT,ed,Qe,bkA,show ¬ (2:Int)=1 by decide,if_false,if_true]
  ·simp only [atC,show ¬ (2:Int)=1 by decide,show ¬ (2:Int)=3 by decide,if_false,dot_W,jO]
 ·obtain ⟨m1,m2⟩:=hm rfl;simp only at m1 m2;have hr:remM (W (sa+dotF s i 0)) md=some ((W (sa+dotF s i 0)).tmod md):=if_neg y5;have t:=tmod_mod (a:=W (sa+dotE s i)) m1;have t2:=Int.lt_tmod_of_pos (W (sa+dotE s i)) (show 0 < md by omega);rw [dot_W] at hr
  have hv:(if (W (sa+dotE s i)).tmod md < 0 then some (W ((W (sa+dotE s i)).tmod md+md)) else some ((W (sa+dotE s i)).tmod md))=some (W (sa+dotE s i) % md):=by
   rw [← t];split
   ·rw [W_ok y5 y5]
   ·rfl
  refine ⟨W (ba+W (sp * (W (sa+dotE s i) % md))),true,?_,?_⟩
  ·simp only [ZT,ed,Qe,bkA,show ¬ (3:Int)=1 by decide,show ¬ (3:Int)=2 by decide,if_false,dot_W,hr,hv]
  ·simp only [atC,show ¬ (3:Int)=1 by decide,if_true,if_false,jO]
def toC (x:Bool × Int × Int):Qg:=⟨x.1,x.2.1,x.2.2⟩
theorem Org_L1 {i:List Int} (hi:i.length≤600) {v:Bool × Int × Int}:∀ (l p:List Qc),p.length+l.length≤50000→(∀ x∈l,x.box.lo.length=i.length∧x.box.hi.length=i.length∧wfA i.length x.access∧niA x.access)→(∀ x∈l,hasP i x=true→atC x.access i=v)→(∃ x∈l,hasP i x=true) →
  Zz ((p++l).map bkP,i,(p.length:Int))=some (.inl v)
 | [],p,h,h1,h2,h3=>by obtain ⟨x,hx,_⟩:=h3; simp at hx
 | x::l,p,h,h1,h2,h3=>by
  rw [Zz];have g1:((p.length:Int) < (((p++x::l).map bkP).length:Int)):=by simp; omega
  have g2:idx ((p++x::l).map bkP) (p.length:Int)=some (bkP x):=idx_of y7;obtain ⟨k1,k2,k3,k4⟩:=h1 x (jM ..);have e:Xy ((bkP x).box,i)=some (hasP i x):=has_ok (b:=(bkP x).box) k1 k2 hi;have hpl:p.length≤50000:=by simp at h; omega
  have hW:W ((p.length:Int)+1)=((p++[x]).length:Int):=W_len y5;simp only [g1,if_true,g2,Qe,e];by_cases c:hasP i x=true
  ·obtain ⟨w,ok,e1,e2⟩:=at_ok k3 hi k4;have e1':ZT ((bkP x).access,i)=some (w,ok):=e1;have e3:=h2 x (jM ..) c;rw [e2] at e3;simp only [c,if_true,e1',Qe];cases ok with
   | false=>rw [if_pos rfl] at e3 ⊢; rw [← e3]
   | true=>rw [if_neg y9] at e3 ⊢; rw [← e3]; rfl
  ·have ih:=Org_L1 hi l (p++[x]) (by simp at h ⊢; omega) (fun y hy=>h1 y (jG _ hy)) (fun y hy=>h2 y (jG _ hy)) (by
    obtain ⟨y,hy,hc⟩:=h3;rcases List.mem_cons.1 hy with rfl|hy
    ·exact absurd hc c
    ·exact ⟨y,hy,hc⟩)
   rw [← Qr] at ih;simp only [c,j6,if_false,hW,ih]
def prpR (c:Qa) (x:Qc):Prop:=orgP c x∧niA x.access
theorem Org_ok {c:Qa} {l:List Qc} (h:Inv (prpR c) c.shape l) (hc:checkR c.shape=0) (hP:prodI c.shape≤20000) {i:List Int} (hi:vld c.shape i=true):Yw (l.map bkP,i)=some (toC (orgC c i),true):=by
 obtain ⟨c1,c2,c3⟩:=checkR_ok hc;have hll:=h.len4 hc hP;have hil:=vld_len hi;have hex:∃ x∈l,hasP i x=true:=List.countP_pos_iff.1 (by rw [h.cnt i hi]; omega)
 have e:=Org_L1 (i:=i) (v:=orgC c i) y5 l [] (by simpa using by omega) (fun x hx=>by
  obtain ⟨l1,l2⟩:=okB_len (h.box x hx);have:=h.acc x hx;rw [hil] at this;exact ⟨by omega,by omega,this,(h.prp x hx).2⟩) (fun x hx hh=>(h.prp x hx).1 i hi hh) hex
 have e':Zz (l.map bkP,i,0)=some (.inl (orgC c i)):=e;simp only [Yw,e',Qe];rfl
theorem Orgs_L1 {s:List Int} {L:List Qb} {f:List Int→Bool × Int × Int} (hP:∀ i,vld s i=true→Yw (L,i)=some (toC (f i),true)):∀ (A p:List (List Int)) (out:List Qg),(∀ i∈A,vld s i=true)→p.length+A.length≤50000→out.length=p.length →
  Q8 (p++A,L,out,(p.length:Int))=some (out++A.map fun i=>toC (f i))
 | [],p,out,h,h1,h2=>by
  rw [Q8];simp only [Q4,if_false]; simp
 | i::A,p,out,h,h1,h2=>by
  rw [Q8];have hpl:p.length≤50000:=by simp at h1; omega
  have ih:=Orgs_L1 hP A (p++[i]) (out++[toC (f i)]) (fun j hj=>h j (jG _ hj)) (by simp at h1 ⊢; omega) (by simp [h2]);rw [← Qr] at ih;have hW:W ((p.length:Int)+1)=((p++[i]).length:Int):=W_len y5;simp only [QU,if_true,Qy,Qe,hP i (h i (jM ..))];rw [app_le y6 y5,Qe,hW,ih];simp
theorem allL_vld {s:List Int} (h:∀ n∈s,0≤n):∀ i∈allL s,vld s i=true:=fun i hi=>by
 obtain ⟨j,hj,rfl⟩:=List.getElem_of_mem hi;have hl:=allL_len h;have hp:=prodI_zero_iff h y5;have:=allL_get hp j y5;rw [jC hj] at this;rw [jS this];exact vld_dig hp y5 y5
def cellL (c:Qa):List Qg:=(allL c.shape).map fun i=>toC (orgC c i)
theorem Origins_ok {c:Qa} {l:List Qc} (h:Inv (prpR c) c.shape l) (hc:checkR c.shape=0) (hP:prodI c.shape≤20000) (hall:ZG c.shape=some (allL c.shape)):Z4 (c.shape,l.map bkP)=some (cellL c):=by
 obtain ⟨c1,c2,c3⟩:=checkR_ok hc;have hn:∀ n∈c.shape,0≤n:=fun n hn=>(c3 n hn).1
 have hl:=allL_len hn;have e:=Orgs_L1 (s:=c.shape) (L:=l.map bkP) (f:=orgC c) (fun i hi=>Org_ok h hc hP hi) (allL c.shape) [] [] (allL_vld hn) y6 rfl;have e':Q8 (allL c.shape,l.map bkP,[],0)=some (cellL c):=e;simp only [Z4,hall,Qe,e']
theorem dig_dotp:∀ {s i:List Int},vld s i=true→dig s (dotp s i)=i
 | [],[],_=>rfl
 | n::s,x::i,h=>by
  have h':vld s i=true:=by simp only [vld,jE] at h; exact h.2
  obtain ⟨q0,q1⟩:=dotp_range h';rw [dotp,dig,Int.add_comm,Int.add_mul_ediv_right _ _ y5,Int.ediv_eq_zero_of_lt q0 q1,Int.add_mul_emod_self_right,Int.emod_eq_of_lt q0 q1,dig_dotp h',Int.zero_add]
 | [],_::_,h=>by simp [vld] at h
 | _::_,[],h=>by simp [vld] at h
def bdC (B:Int) (x:Bool × Int × Int):Prop:=(0≤x.2.1∧x.2.1≤100000)∧(0≤x.2.2∧x.2.2≤100000)∧(x.1=true→x.2.1=0∧x.2.2=0)∧(x.1=false→x.2.1 < B)
theorem bd_fill {B:Int}:bdC B (true,0,0):=⟨⟨by decide,by decide⟩,⟨by decide,by decide⟩,fun _=>⟨rfl,rfl⟩,fun h=>by cases h⟩
section
variable {bs:List (List Int)} {m:Int} {G:Qa→Prop}
theorem org_bnd (hG:GK bs m G) (hb:bs.length≤1000) (hm:m≤20000):∀ (n:Nat) (c:Qa),szC c≤n→G c→∀ i,vld c.shape i=true→bdC (bs.length:Int) (orgC c i)
 | 0,c,h,_,_,_=>by have:=szC_pos c; omega
 | n+1,c,h,hg,i,hi=>by
  obtain ⟨hch,hpr,_⟩:=hG.chk hg;obtain ⟨c1,c2,c3⟩:=checkR_ok hch
  have sub:∀ k∈c.kids,∀ j,vld k.shape j=true→bdC (bs.length:Int) (orgC k j):=fun k hk j hj=>by
   have:=kid_sz hk;exact org_bnd hG hb hm n k y5 ((hG c hg).2.2 k hk) j hj
  have chk:∀ k∈c.kids,checkR k.shape=0:=fun k hk=>(hG.chk ((hG c hg).2.2 k hk)).1
  have hil:=vld_len hi;cases hG.nod hg with
  | one h1 hk =>
   rw [org_one h1];have hbf:=(nodesF_f (hG c hg).1).2.1 h1;have:=idx_some hbf;have hd:=dotp_range hi;refine ⟨⟨?_,?_⟩,⟨hd.1,?_⟩,(fun h=>by cases h),fun _=>?_⟩
   ·exact this.1
   ·have:=(List.getElem?_eq_some_iff.1 this.2).1;show c.buffer≤100000
    omega
   ·show dotp c.shape i≤100000
    omega
   ·have:=(List.getElem?_eq_some_iff.1 this.2).1;show c.buffer < (bs.length:Int)
    omega
  | win k h2 hk t1 t2 t3 =>
   rw [org_two y5];have hkid:kidS c=k.shape:=by unfold kidS; rw [hk]
   by_cases hv:vld k.shape (addW i c.starts)=true
   ·have es:stepV c i=(0,addW i c.starts,true):=by unfold stepV; rw [if_pos h2,hkid,hv]; rfl
    rw [es];simp only [if_true,hk,Int.toNat_zero,orgCs];exact sub k (by rw [hk]; simp) _ hv
   ·have es:(stepV c i).2.2=false:=by unfold stepV; rw [if_pos h2,hkid]; exact (Bool.not_eq_true _).mp hv
    rw [es]; exact bd_fill
  | rev k h3 hk t1 t2 t3 =>
   have hkid:kidS c=c.shape:=by unfold kidS; rw [hk]; exact t1
   have es:stepV c i=(0,i.set c.axis.toNat (c.shape.getD c.axis.toNat 0 - 1 - i.getD c.axis.toNat 0),true):=by
    unfold stepV;rw [if_neg y5,if_pos h3,hkid]
   rw [org_two y5,es];simp only [if_true,hk,Int.toNat_zero,orgCs];have hg':=vld_get hi c.axis.toNat t3;refine sub k (by rw [hk]; simp) _ ?_;have:=vld_set (k:=c.axis.toNat) (n:=c.shape.getD c.axis.toNat 0) (y:=c.shape.getD c.axis.toNat 0 - 1 - i.getD c.axis.toNat 0) hi y5 y5;rw [set_same (at_getD t3)] at this;rw [t1]; exact this
  | rot k h4 hk t1 t2 t3 t4 t5 t6 =>
   have hkid:kidS c=c.shape:=by unfold kidS; rw [hk]; exact t1
   have es:stepV c i=(0,i.set c.axis.toNat ((i.getD c.axis.toNat 0+c.amount) % c.shape.getD c.axis.toNat 0),true):=by
    unfold stepV;rw [if_neg y5,if_neg y5,if_pos h4,hkid]
   rw [org_two y5,es];simp only [if_true,hk,Int.toNat_zero,orgCs];have hg':=vld_get hi c.axis.toNat t3;refine sub k (by rw [hk]; simp) _ ?_;have:=vld_set (k:=c.axis.toNat) (n:=c.shape.getD c.axis.toNat 0) (y:=(i.getD c.axis.toNat 0+c.amount) % c.shape.getD c.axis.toNat 0) hi (Int.emod_nonneg _ y5) (Int.emod_lt_of_pos _ y5);rw [set_same (at_getD t3)] at this;rw [t1]; exact this
  | tra k h5 hk t1 t2 t3 =>
   have es:stepV c i=(0,perI c.perm i,true):=by
    unfold stepV;rw [if_neg y5,if_neg y5,if_neg y5,if_pos h5]; rfl
   rw [org_two y5,es];simp only [if_true,hk,Int.toNat_zero,orgCs];refine sub k (by rw [hk]; simp) _ (vld_of (by simp [perI,t1]) fun j hj=>?_);have hjp:j < c.perm.length:=by omega
   have e:(perI c.perm i).getD j 0=i.getD (c.perm.getD j 0).toNat 0:=by
    rw [getD_el (by simpa [perI] using hjp),getD_el hjp]; simp [perI]
   have hpj:=t2 (c.perm.getD j 0) (by rw [getD_el hjp]; exact z8 _);have hg':=vld_get hi (c.perm.getD j 0).toNat hpj.2;have:=t3 j hj;rw [e]; omega
  | rsh k h6 hk =>
   have hkid:kidS c=k.shape:=by unfold kidS; rw [hk]
   have hck:=chk k (by rw [hk]; simp);obtain ⟨d1,d2,d3⟩:=checkR_ok hck;rw [org_two y5];by_cases z:prodI k.shape=0
   ·have es:(stepV c i).2.2=false:=by
     unfold stepV;rw [if_neg y5,if_neg y5,if_neg y5,if_neg y5,if_pos h6,hkid,if_pos z]
    rw [es]; exact bd_fill
   ·have es:stepV c i=(0,dig k.shape (dotp c.shape i % prodI k.shape),true):=by
     unfold stepV;rw [if_neg y5,if_neg y5,if_neg y5,if_neg y5,if_pos h6,hkid,if_neg z]
    rw [es];simp only [if_true,hk,Int.toNat_zero,orgCs];have hp:=prodI_zero_iff (fun n hn=>(d3 n hn).1) z;have hP:=prodI_pos hp;exact sub k (by rw [hk]; simp) _ (vld_dig hp (Int.emod_nonneg _ y5) (Int.emod_lt_of_pos _ y5))
  | cat k k2 h7 hk t1 t2 t3 t4 f1 f2 f3 =>
   have hkid:kidS c=k.shape:=by unfold kidS; rw [hk]
   have hg':=vld_get hi c.axis.toNat t2;have hf3:c.shape.getD c.axis.toNat 0=k.shape.getD c.axis.toNat 0+k2.shape.getD c.axis.toNat 0:=by rw [jB,f3]; rfl
   rw [org_two y5];by_cases q:i.getD c.axis.toNat 0 < k.shape.getD c.axis.toNat 0
   ·have es:stepV c i=(0,i,true):=by
     unfold stepV;rw [if_neg y5,if_neg y5,if_neg y5,if_neg y5,if_neg y5,hkid,if_pos q]
    rw [es];simp only [if_true,hk,Int.toNat_zero,orgCs];have:=vld_set (k:=c.axis.toNat) (n:=k.shape.getD c.axis.toNat 0) (y:=i.getD c.axis.toNat 0) hi y5 q;rw [f1,set_same (at_getD y5)] at this;exact sub k (by rw [hk]; simp) _ this
   ·have es:stepV c i=(1,i.set c.axis.toNat (i.getD c.axis.toNat 0 - k.shape.getD c.axis.toNat 0),true):=by
     unfold stepV;rw [if_neg y5,if_neg y5,if_neg y5,if_neg y5,if_neg y5,hkid,if_neg q]
    have t1':Int.toNat 1=1:=rfl;rw [es];simp only [if_true,hk,t1',orgCs];have:=vld_set (k:=c.axis.toNat) (n:=k2.shape.getD c.axis.toNat 0) (y:=i.getD c.axis.toNat 0 - k.shape.getD c.axis.toNat 0) hi y5 y5;rw [f2] at this;exact sub k2 (by rw [hk]; simp) _ this
end
theorem less_cmp:∀ {a b:List Int},a.length=b.length→lessL a b=true→cmpL a b < 0
 | x::a,y::b,hl,h=>by
  simp only [lessL] at h;simp only [cmpL];by_cases c:x < y
  ·rw [if_pos c]; decide
  ·by_cases e:x=y
   ·rw [if_neg (by simpa using e)] at h;rw [if_neg c,if_neg y5];exact less_cmp (by simpa using hl) h
   ·rw [if_pos e] at h;exact absurd (of_decide_eq_true h) c
 | [],_,_,h=>by simp [lessL] at h
 | _::_,[],_,h=>by simp [lessL] at h
section
variable {s:List Int} {cf:Nat→Qg} {N:Nat}
theorem Til_cnt0 (hN:(N:Int)=prodI s):∀ {P:List Qb} {F:Nat},Til s cf N F P→∀ f:Nat,f < F→f < N→(P.map toPc).countP (hasP (dig s (f:Int)))=0
 | [],F,_,f,_,_=>rfl
 | p::P,F,⟨z,hc,hz,ht⟩,f,h,h2=>by
  have:=hc.inb f y5
  have e:hasP (dig s (f:Int)) (toPc p)=false:=by
   show inB p.box.lo p.box.hi _=false
   rw [this]; exact zX y5
  rw [zS,List.countP_cons_of_neg (by rw [e]; decide)];exact Til_cnt0 hN ht f y5 h2
theorem Til_cnt (hN:(N:Int)=prodI s):∀ {P:List Qb} {F:Nat},Til s cf N F P→∀ f:Nat,F≤f→f < N→(P.map toPc).countP (hasP (dig s (f:Int)))=1
 | [],F,h,f,h1,h2=>by simp only [Til] at h; omega
 | p::P,F,⟨z,hc,hz,ht⟩,f,h,h2=>by
  have:=hc.inb f y5;by_cases g:f < F+z
  ·have e:hasP (dig s (f:Int)) (toPc p)=true:=by
    show inB p.box.lo p.box.hi _=true
    rw [this]; exact decide_eq_true ⟨h,g⟩
   rw [zS,List.countP_cons_of_pos e,Til_cnt0 hN ht f g h2]
  ·have e:hasP (dig s (f:Int)) (toPc p)=false:=by
    show inB p.box.lo p.box.hi _=false
    rw [this]; exact zX y5
   rw [zS,List.countP_cons_of_neg (by rw [e]; decide)];exact Til_cnt hN ht f y5 h2
theorem Til_srt (hp:∀ n∈s,1≤n) (hN:(N:Int)=prodI s):∀ {P:List Qb} {F:Nat},Til s cf N F P→strictT (P.map toPc)=true
 | [],_,_=>rfl
 | [p],_,_=>rfl
 | p::q::P,F,⟨z,hc,hz,ht⟩=>by
  have ih:=Til_srt hp hN ht;obtain ⟨z2,hc2,hz2,ht2⟩:=ht;have hz1:=hc.hz1;have hz3:=hc2.hz1;simp only [zS,strictT,jE,zA] at ih ⊢;refine ⟨?_,ih⟩;show cmpL p.box.lo q.box.lo < 0
  rw [hc.lo,hc2.lo];refine less_cmp (by rw [dig_len,dig_len]) ?_;exact dig_less hp y5 y5 y5
end
theorem bk_toPc (x:Qb):bkP (toPc x)=x:=rfl
theorem bk_map (P:List Qb):(P.map toPc).map bkP=P:=by
 rw [zD]
 have:(bkP ∘ toPc)=id:=funext bk_toPc
 rw [this,List.map_id]
def rshR (l:List Qc) (s0 s:List Int):List Qc :=
 if s0=s then l else (((Z4 (s0,l.map bkP)).bind fun o=>(Xp o).bind fun r=>QT (r,s)).getD []).map toPc
theorem wf_rgt {a:Qm} {n:Nat} (h:rgtA a n):wfA n (toA a):=h.k
theorem ni_rgt {a:Qm} {n:Nat} (h:rgtA a n):niA (toA a):=by
 have hs:=h.s;refine ⟨?_,?_,fun h3=>⟨h.m h3,?_⟩,?_⟩
 ·show W a.base=a.base; have:=hs.o; exact W_in this.1 this.2
 ·show W a.start=a.start; have:=hs.t; exact W_in this.1 this.2
 ·show a.mod≤1000000000000; exact hs.m.2
 ·show a.strides.length≤1000; exact hs.l
section
variable {bs:List (List Int)} {m:Int} {G:Qa→Prop}
theorem rsh_step {c k:Qa} (h6:c.kind=6) (hk:c.kids=[k]) (i:List Int):orgC c i=if prodI k.shape=0 then (true,0,0) else orgC k (dig k.shape (dotp c.shape i % prodI k.shape)):=by
 have hkid:kidS c=k.shape:=by unfold kidS; rw [hk]
 rw [org_two y5];by_cases z:prodI k.shape=0
 ·have es:(stepV c i).2.2=false:=by
   unfold stepV;rw [if_neg y5,if_neg y5,if_neg y5,if_neg y5,if_pos h6,hkid,if_pos z]
  rw [es,if_pos z]; rfl
 ·have es:stepV c i=(0,dig k.shape (dotp c.shape i % prodI k.shape),true):=by
   unfold stepV;rw [if_neg y5,if_neg y5,if_neg y5,if_neg y5,if_pos h6,hkid,if_neg z]
  rw [es,if_neg z];simp only [if_true,hk,Int.toNat_zero,orgCs]
theorem rsh_same {c k:Qa} (h6:c.kind=6) (hk:c.kids=[k]) (hs:k.shape=c.shape) {l:List Qc} (h:Inv (prpR k) k.shape l):Inv (prpR c) c.shape l:=by
 rw [hs] at h;refine ⟨h.box,h.acc,fun x hx=>⟨fun i hi hh=>?_,(h.prp x hx).2⟩,h.cnt,h.srt⟩;have hd:=dotp_range hi;rw [rsh_step h6 hk i,hs,if_neg y5,Int.emod_eq_of_lt hd.1 hd.2,dig_dotp hi];exact (h.prp x hx).1 i (by rw [hs]; exact hi) hh
theorem cell_at (c:Qa) (hn:∀ n∈c.shape,1≤n) {f:Nat} (hf:(f:Int) < prodI c.shape):ce (cellL c) f=toC (orgC c (dig c.shape (f:Int))):=by
 have:=allL_get hn f hf;unfold ce cellL;rw [jB,jD,this]; rfl
theorem rsh_diff (hG:GK bs m G) (hb:bs.length≤1000) (hm:m≤500) (hall:∀ c,G c→ZG c.shape=some (allL c.shape)) {c k:Qa} (hg:G c) (h6:c.kind=6) (hk:c.kids=[k]) {l:List Qc} (h:Inv (prpR k) k.shape l) :
  ∃ P,Z4 (k.shape,l.map bkP)=some (cellL k)∧Xp (cellL k)=some (ofR (cellL k))∧QT (ofR (cellL k),c.shape)=some P∧Inv (prpR c) c.shape (P.map toPc):=by
 have hgk:=(hG c hg).2.2 k (by rw [hk]; simp);obtain ⟨hc,hpc,hlc⟩:=hG.chk hg;obtain ⟨hck,hpk,hlk⟩:=hG.chk hgk;obtain ⟨c1,c2,c3⟩:=checkR_ok hc;obtain ⟨d1,d2,d3⟩:=checkR_ok hck;have hnk:∀ n∈k.shape,0≤n:=fun n hn=>(d3 n hn).1
 have e1:=Origins_ok h hck y5 (hall k hgk)
 have hcl:(cellL k).length=(prodI k.shape).toNat:=by
  unfold cellL; rw [jY];have:=allL_len hnk;omega
 have hl:(cellL k).length≤600:=by omega
 have hcR:∀ x∈cellL k,cellR x:=fun x hx=>by
  obtain ⟨i,hi,rfl⟩:=List.mem_map.1 hx;have q:=org_bnd hG hb y5 _ k (j7 _) hgk i (allL_vld hnk i hi);exact ⟨q.1,q.2.1,q.2.2.1⟩
 have e2:=rOf_ok hl hcR;by_cases z:prodI c.shape=0
 ·refine ⟨[],e1,e2,?_,?_⟩
  ·have hS:Sm c.shape.length:=Sm_of (show c.shape.length≤1000 by omega);simp only [QT,Cells_ok _ hS,cellsR,hc,z,if_true,Qe]
  ·exact ⟨fun x hx=>by simp at hx,fun x hx=>by simp at hx,fun x hx=>by simp at hx,fun i hi=>by have:=dotp_range hi; omega,rfl⟩
 ·have hp:=prodI_zero_iff (fun n hn=>(c3 n hn).1) z;have hP:=prodI_pos hp;obtain ⟨N,hN⟩:∃ N:Nat,(N:Int)=prodI c.shape:=⟨(prodI c.shape).toNat,by omega⟩;obtain ⟨P,e3,ht⟩:=pieces_ok hl hcR hc hp hN (hall c hg);refine ⟨P,e1,e2,e3,?_⟩
  have hmem:∀ x∈P.map toPc,∃ p F z,x=toPc p∧Cov c.shape (cfL (cellL k)) p F z∧F+z≤N:=fun x hx=>by
   obtain ⟨p,hp',rfl⟩:=List.mem_map.1 hx;clear e3 hx;generalize 0=F0 at ht;induction P generalizing F0 with
   | nil=>simp at hp'
   | cons q P ih =>
    obtain ⟨z,hc,hz,ht⟩:=ht;rcases List.mem_cons.1 hp' with rfl|hp'
    ·exact ⟨_,F0,z,rfl,hc,hz⟩
    ·exact ih hp' _ ht
  refine ⟨fun x hx=>?_,fun x hx=>?_,fun x hx=>?_,fun i hi=>?_,Til_srt hp hN ht⟩
  ·obtain ⟨p,F,z,rfl,hc,_⟩:=hmem x hx;exact hc.box
  ·obtain ⟨p,F,z,rfl,hc,_⟩:=hmem x hx;exact wf_rgt hc.acc
  ·obtain ⟨p,F,z,rfl,hc,hz⟩:=hmem x hx;have hni:niA (toPc p).access:=ni_rgt hc.acc;refine ⟨fun i hi hh=>?_,hni⟩;have hd:=dotp_range hi;obtain ⟨f,hf⟩:∃ f:Nat,(f:Int)=dotp c.shape i:=⟨(dotp c.shape i).toNat,by omega⟩;have hdi:dig c.shape (f:Int)=i:=by rw [hf]; exact dig_dotp hi
   have hin:=hc.inb f y5;rw [hdi] at hin;have hh':inB p.box.lo p.box.hi i=true:=hh;rw [hh'] at hin;have hFf:=of_decide_eq_true hin.symm;obtain ⟨v,ok,g1,g2⟩:=hc.hit f hFf.1 hFf.2;rw [hdi] at g1;obtain ⟨v',ok',g3,g4⟩:=at_ok (a:=(toPc p).access) (i:=i) (by have:=wf_rgt hc.acc; rw [vld_len hi] at this; exact this) (by have:=vld_len hi; omega) hni;have g3':ZT (p.access,i)=some (v',ok'):=g3;rw [g1] at g3';obtain ⟨rfl,rfl⟩:=Prod.mk.inj (jS g3');rw [g4,rsh_step h6 hk i]
   have hcf:cfL (cellL k) f=if prodI k.shape=0 then ⟨true,0,0⟩ else toC (orgC k (dig k.shape (dotp c.shape i % prodI k.shape))):=by
    unfold cfL;by_cases zk:prodI k.shape=0
    ·rw [if_pos zk,if_pos y5]
    ·have hpk':=prodI_zero_iff hnk zk;have hPk:=prodI_pos hpk';rw [if_neg zk,if_neg y5];unfold cellF;have hml:=Nat.mod_lt f (show 0 < (cellL k).length by omega);rw [cell_at k hpk' y5]
     have:((f % (cellL k).length:Nat):Int)=dotp c.shape i % prodI k.shape:=by
      rw [Int.natCast_emod,hf]; congr 1; omega
     rw [this]
   rw [hcf] at g2;by_cases zk:prodI k.shape=0
   ·rw [if_pos zk] at g2 ⊢;cases ok with
    | false=>rfl
    | true =>
     rw [if_neg y9] at g2;have:=congrArg Qg.fill g2;simp at this
   ·rw [if_neg zk] at g2 ⊢;generalize orgC k (dig k.shape (dotp c.shape i % prodI k.shape))=w at g2 ⊢;obtain ⟨w1,w2,w3⟩:=w;simp only [toC] at g2;cases ok with
    | false =>
     rw [if_pos rfl] at g2 ⊢;injection g2 with q1 q2 q3
     rw [q1,q2,q3]
    | true =>
     rw [if_neg y9] at g2 ⊢;injection g2 with q1 q2 q3
     rw [q1,q2,q3]; rfl
  ·have hd:=dotp_range hi;obtain ⟨f,hf⟩:∃ f:Nat,(f:Int)=dotp c.shape i:=⟨(dotp c.shape i).toNat,by omega⟩;have hdi:dig c.shape (f:Int)=i:=by rw [hf]; exact dig_dotp hi
   have:=Til_cnt hN ht f (zN _) y5
   rwa [hdi] at this
end
theorem rT_L2 (o:List Int) (k:Int) (c:Nat):∀ (s p:List Int) (v:Int),p.length+s.length≤600→(∀ n∈s,1≤n)→1≤v→v * prodI s≤65536→QE (p++s,c,o,k,v,(p.length:Int))=some (v * prodI s)
 | [],p,v,h,hp,h1,h2=>by
  rw [QE];simp only [Q4,if_false,Qe,j6,prodI_nil,Int.mul_one]
 | x::s,p,v,h,hp,h1,h2=>by
  rw [QE];have hx:=hp x (jM ..);have hs:=prodI_pos (fun n hn=>hp n (jG _ hn));rw [prodI_cons,← Int.mul_assoc] at h2;have b1:1≤v * x:=by have:=Int.mul_le_mul h1 hx y5 y5; omega
  have b2:(v * x) * 1≤v * x * prodI s:=Int.mul_le_mul_of_nonneg_left hs y5;have w2:W (v * x)=v * x:=W_ok y5 y5;have e:=rT_L2 o k c s (p++[x]) (v * x) (by simp at h ⊢; omega) (fun n hn=>hp n (jG _ hn)) b1 h2;rw [← Qr] at e;simp only [QU,if_true,show v > 0 by omega,decide_true,Qe,Qy,YF h,w2,e,prodI_cons,Int.mul_assoc]
theorem rT_L1:∀ (s p out:List Int) (c:Nat),p.length+s.length≤600→checkR (p++s)=0→(∀ n∈p++s,1≤n)→out.length≤p.length→∃ g,Qz (p++s,c,out,(p.length:Int))=some (g,out++strd s)
 | [],p,out,c,h,hc,hp,ho=>by
  rw [Qz];simp only [Q4,if_false];simp only [strd,jU];exact ⟨_,rfl⟩
 | x::s,p,out,c,h,hc,hp,ho=>by
  rw [Qz];have hS:Sm (p++x::s).length:=Sm_of (show (p++x::s).length≤1000 by simp at h ⊢; omega);have hP:=prodI_pos hp;have hps:∀ n∈s,1≤n:=fun n hn=>hp n (by simp [hn])
  have hle:prodI s≤65536:=by
   have:=prod_le (a:=p++[x]) (b:=s) (fun n hn=>hp n (by simp at hn ⊢; rcases hn with h|h <;> simp [h])) hps;rw [← Qr] at this;have:=(checkR_ok hc).2.1; omega
  have hcell:Zs (p++x::s)=some (prodI (p++x::s)):=by rw [Cells_ok _ hS,cellsR,if_pos hc]
  have e2:=rT_L2 out (p.length:Int) c s (p++[x]) 1 (by simp at h ⊢; omega) hps y5 y5;rw [← Qr,Int.one_mul] at e2;obtain ⟨g,e⟩:=rT_L1 s (p++[x]) (out++[prodI s]) (gb c ([prodI s]:List Int).isEmpty) (by simp at h ⊢; omega) (by rw [← Qr]; exact hc) (by rw [← Qr]; exact hp) y6;rw [← Qr] at e;simp only [QU,if_true,hcell,Qe,show ¬ prodI (p++x::s)=0 by omega,if_false,YF h,e2];rw [app_le (by simp at h ⊢; omega) y5,Qe,e,strd];exact ⟨g,by simp⟩
theorem rTtr_ok {s:List Int} (hc:checkR s=0) (hp:∀ n∈s,1≤n):∃ g,Zj s=some (g,strd s):=by
 obtain ⟨h1,h2,h3⟩:=checkR_ok hc;obtain ⟨g,e⟩:=rT_L1 s [] [] 0 y6 hc hp y7;have e':Qz (s,0,[],0)=some (g,strd s):=e;have hS:Sm s.length:=Sm_of (show s.length≤1000 by omega);exact ⟨g,by simp only [Zj,Check_ok s hS,Qe,hc,ne_eq,not_true,if_false,e']⟩
theorem rZ_L1:∀ (s p out:List Int) (c:Nat),p.length+s.length≤600→checkR (p++s)=0→prodI (p++s)=0→out.length≤p.length→∃ g,Qz (p++s,c,out,(p.length:Int))=some (g,out++List.replicate s.length 0)
 | [],p,out,c,h,hc,hp,ho=>by
  rw [Qz];simp only [Q4,if_false];exact ⟨_,by simp; rfl⟩
 | x::s,p,out,c,h,hc,hp,ho=>by
  rw [Qz];have hS:Sm (p++x::s).length:=Sm_of (show (p++x::s).length≤1000 by simp at h ⊢; omega);have hcell:Zs (p++x::s)=some (prodI (p++x::s)):=by rw [Cells_ok _ hS,cellsR,if_pos hc]
  have e2:∀ w,QE (p++x::s,c,out,(p.length:Int),0,w)=some 0:=fun w=>by
   rw [QE]
   have:¬ ((0:Int) > 0):=by decide
   by_cases g:w < ((p++x::s).length:Int)
   ·simp only [g,if_true,this,zY,Qe,j6,if_false]
   ·simp only [g,if_false,Qe,j6]
  obtain ⟨g,e⟩:=rZ_L1 s (p++[x]) (out++[0]) (gb c ([0]:List Int).isEmpty) (by simp at h ⊢; omega) (by rw [← Qr]; exact hc) (by rw [← Qr]; exact hp) y6;rw [← Qr] at e;simp only [QU,if_true,hcell,Qe,hp,YF h,e2];rw [app_le (by simp at h ⊢; omega) y5,Qe,e,zE,List.replicate_succ];exact ⟨g,by simp⟩
theorem full_pos:∀ {s:List Int},fullB (List.replicate s.length 0) s=true→∀ n∈s,1≤n
 | [],_,n,h=>by simp at h
 | x::s,f,n,h=>by
  rw [zE,List.replicate_succ,fullB,jE,zA] at f;rcases List.mem_cons.1 h with rfl|h
  ·omega
  ·exact full_pos f.2 n h
theorem Whole_ok {b:Int} {s:List Int} (hc:checkR s=0):YJ (b,s)=some ((if prodI s=0 then [] else [wholeP b s]).map bkP):=by
 obtain ⟨h1,h2,h3⟩:=checkR_ok hc;have hS:Sm s.length:=Sm_of (show s.length≤1000 by omega);have ew:Z8 s=some ⟨List.replicate s.length 0,s⟩:=by simp only [Z8,mkN_ok (show s.length≤600 by omega),Qe]
 by_cases z:prodI s=0
 ·obtain ⟨g,e⟩:=rZ_L1 s [] [] 0 y6 hc z y7;have e':Qz (s,0,[],0)=some (g,List.replicate s.length 0):=e;have es:Zj s=some (g,List.replicate s.length 0):=by simp only [Zj,Check_ok s hS,Qe,hc,ne_eq,not_true,if_false,e']
  have hf:¬ fullB (List.replicate s.length 0) s=true:=fun f=>by
   have:=prodI_pos (full_pos f); omega
  have ep:=put_ok (n:=s.length) (l:=[]) (x:=⟨⟨List.replicate s.length 0,s⟩,⟨2,b,0,List.replicate s.length 0,0,0,0⟩⟩) (y:=⟨⟨List.replicate s.length 0,s⟩,⟨2,b,0,List.replicate s.length 0,0,0,0⟩⟩) y5 y7 (fun z hz=>by simp at hz) ⟨by simp,rfl⟩ rfl y8
  have ep':QJ ([],⟨⟨List.replicate s.length 0,s⟩,⟨2,b,0,List.replicate s.length 0,0,0,0⟩⟩)=some []:=by
   refine ep.trans ?_;unfold putT;rw [if_neg (show ¬ fullP ⟨⟨List.replicate s.length 0,s⟩,⟨2,b,0,List.replicate s.length 0,0,0,0⟩⟩=true from hf)]; rfl
  simp only [YJ,ew,Qe,YW,es,ep',z,if_true];rfl
 ·have hp:=prodI_zero_iff (fun n hn=>(h3 n hn).1) z;obtain ⟨g,es⟩:=rTtr_ok hc hp;have ep:=put_ok (n:=s.length) (l:=[]) (x:=wholeP b s) (y:=bkP (wholeP b s)) y5 y7 (fun z hz=>by simp at hz) ⟨by simp [bkP,wholeP],rfl⟩ rfl y8
  have ep':QJ ([],⟨⟨List.replicate s.length 0,s⟩,⟨2,b,0,strd s,0,0,0⟩⟩)=some [bkP (wholeP b s)]:=by
   refine ep.trans ?_;unfold putT;rw [if_pos (show fullP (wholeP b s)=true from full_whole hp)]; rfl
  simp only [YJ,ew,Qe,YW,es,ep',z,if_false];rfl
section
variable {bs:List (List Int)} {m:Int}
def GS (bs:List (List Int)) (m:Int) (c:Qa):Prop:=nodesF bs c∧cellsF m c
theorem GS_GK:GK bs m (GS bs m):=fun c h=>⟨h.1,h.2,fun k hk=>⟨(nodesF_f h.1).2.2 k hk,(cellsF_f h.2).2 k hk⟩⟩
theorem GS_all (h1:1≤m) (h2:m≤500) (c:Qa) (h:GS bs m c):ZG c.shape=some (allL c.shape):=small_All (cellsF_f h.2).1 ⟨h1,by omega⟩
theorem GS_St (hb:bs.length≤1000) (h1:1≤m) (h2:m≤500):StI (GS bs m) prpR rshR where
 whole:=fun c hg k1 z=>by
  obtain ⟨hc,_,hl⟩:=GS_GK.chk hg;exact ⟨org_whole k1 hc,whole_ni y5⟩
 win:=fun c k hg k2 hk x hb ha hp hf=>by
  obtain ⟨hc,_,hl⟩:=GS_GK.chk hg;obtain ⟨hck,_,_⟩:=GS_GK.chk ((GS_GK c hg).2.2 k (by rw [hk]; simp));cases GS_GK.nod hg
  case win k' h hk' t1 t2 t3 =>
   rw [hk] at hk'; cases hk';exact ⟨org_win k2 hk hc hck t1 t2 t3 hb ha hp.1,shfs_ni _ _ _ hp.2⟩
  all_goals omega
 fil:=fun c k hg k2 hk b hb hv=>by
  obtain ⟨hc,_,hl⟩:=GS_GK.chk hg;cases GS_GK.nod hg
  case win k' h hk' t1 t2 t3 =>
   rw [hk] at hk'; cases hk';exact ⟨org_fil k2 hk hc t3 hv,fill_ni b⟩
  all_goals omega
 rev:=fun c k hg k3 hk x hb ha hp=>by
  cases GS_GK.nod hg
  case rev k' h hk' t1 t2 t3 =>
   rw [hk] at hk'; cases hk';exact ⟨org_rev k3 hk t1 y5 y5 hb ha hp.1,flp_ni hp.2⟩
  all_goals omega
 rot:=fun c k hg k4 hk x hb ha hp y hy hf=>by
  obtain ⟨hc,_,hl⟩:=GS_GK.chk hg;cases GS_GK.nod hg
  case rot k' h hk' t1 t2 t3 t4 t5 t6 =>
   rw [hk] at hk'; cases hk';refine ⟨org_rot k4 hk t1 hc y5 y5 ⟨t4,t6⟩ hb ha hp.1 hy,?_⟩;simp only [rotP,List.mem_cons,List.not_mem_nil,or_false] at hy;rcases hy with rfl|rfl
   ·exact shf_ni hp.2
   ·exact shf_ni hp.2
  all_goals omega
 per:=fun c k hg k5 hk x hb ha hp hf=>by
  obtain ⟨hc,_,hl⟩:=GS_GK.chk hg;cases GS_GK.nod hg
  case tra k' h hk' t1 t2 t3 =>
   rw [hk] at hk'; cases hk';exact ⟨org_per k5 hk t1 t2 hb ha hp.1,per_ni hp.2 y5⟩
  all_goals omega
 rsh:=fun c k hg k6 hk l h=>by
  unfold rshR;by_cases hs:k.shape=c.shape
  ·rw [if_pos hs]; exact rsh_same k6 hk hs h
  ·rw [if_neg hs];obtain ⟨P,e1,e2,e3,hi⟩:=rsh_diff GS_GK hb h2 (GS_all h1 h2) hg k6 hk h;rw [e1,zU,e2,zU,e3];exact hi
 ct1:=fun c k k2 hg k7 hk x hb ha hp=>by
  obtain ⟨hck,_,_⟩:=GS_GK.chk ((GS_GK c hg).2.2 k (by rw [hk]; simp));cases GS_GK.nod hg
  case cat k' k2' h hk' t1 t2 t3 t4 f1 f2 f3 =>
   rw [hk] at hk'; cases hk';exact ⟨org_ct1 k7 hk hck t3 y5 y5 hb ha hp.1,shf_ni hp.2⟩
  all_goals omega
 ct2:=fun c k k2 hg k7 hk x hb ha hp=>by
  obtain ⟨hck,_,_⟩:=GS_GK.chk ((GS_GK c hg).2.2 k (by rw [hk]; simp));cases GS_GK.nod hg
  case cat k' k2' h hk' t1 t2 t3 t4 f1 f2 f3 =>
   rw [hk] at hk'; cases hk';exact ⟨org_ct2 k7 hk hck t4 t3 y5 y5 hb ha hp.1,shf_ni hp.2⟩
  all_goals omega
theorem red_ref (hb:bs.length≤1000) (h1:1≤m) (h2:m≤500):∀ (n:Nat) (c:Qa),szC c≤n→GS bs m c→ZC c=some ((redF rshR c).map bkP)
 | 0,c,h,_=>by have:=szC_pos c; omega
 | n+1,c,h,hg=>by
  have S:=GS_St (bs:=bs) hb h1 h2;obtain ⟨hch,hpr,hln⟩:=GS_GK.chk hg
  have sub:∀ k∈c.kids,Inv (prpR k) k.shape (redF rshR k)∧checkR k.shape=0∧prodI k.shape≤500∧k.shape.length≤6∧ZC k=some ((redF rshR k).map bkP):=fun k hk=>by
   have:=kid_sz hk;have hgk:=(GS_GK c hg).2.2 k hk;obtain ⟨q1,q2,q3⟩:=GS_GK.chk hgk;exact ⟨red_inv S GS_GK n k y5 hgk,q1,by omega,q3,red_ref hb h1 h2 n k y5 hgk⟩
  rw [redF_eq,ZC];cases GS_GK.nod hg with
  | one k1 hk=>rw [redV_1 k1]; simp only [k1,if_true,Whole_ok hch,Qe]
  | win k k2 hk t1 t2 t3 =>
   obtain ⟨i1,j1,p1,l1,e1⟩:=sub k (by rw [hk]; simp);have i0:idx [k] 0=some k:=rfl;have hp:=Win_pre (Q:=prpR c) i1 j1 hch t1 t2 t3 (fun x _ hb ha hp hf=>S.win c k hg k2 hk x hb ha hp hf) (fun b hb hv=>S.fil c k hg k2 hk b hb hv);have e:=rWin_ok i1 j1 y5 hch t1 t2 hp;rw [redV_2 k2,kidS_of hk,hk,redFs];simp only [k2,show ¬ (2:Int)=1 by decide,if_false,if_true,i0,Qe,e1,e,List.getD_cons_zero]
  | rev k k3 hk t1 t2 t3 =>
   obtain ⟨i1,j1,p1,l1,e1⟩:=sub k (by rw [hk]; simp);have i0:idx [k] 0=some k:=rfl;rw [t1] at i1 j1 p1;have ha:=at_getD (l:=c.shape) (k:=c.axis.toNat) t3;have hp:=Rev_pre (Q:=prpR c) i1 ha (fun x _ hb ha hp=>S.rev c k hg k3 hk x (by rw [t1]; exact hb) (by rw [t1]; exact ha) hp);have e:=rRev_ok i1 hch y5 ha hp;have hx:idx c.shape c.axis=some (c.shape.getD c.axis.toNat 0):=idx_get y5 t3;rw [← t2] at e;rw [redV_3 k3,hk,redFs];simp only [k3,show ¬ (3:Int)=1 by decide,show ¬ (3:Int)=2 by decide,if_false,if_true,i0,Qe,e1,hx,e,List.getD_cons_zero]
  | rot k k4 hk t1 t2 t3 t4 t5 t6 =>
   obtain ⟨i1,j1,p1,l1,e1⟩:=sub k (by rw [hk]; simp);have i0:idx [k] 0=some k:=rfl;rw [t1] at i1 j1 p1;have ha:=at_getD (l:=c.shape) (k:=c.axis.toNat) t3;have hp:=Rot_pre (Q:=prpR c) i1 ha t4 t5 (fun x _ hb ha hp=>S.rot c k hg k4 hk x (by rw [t1]; exact hb) (by rw [t1]; exact ha) hp);have e:=rRot_ok i1 hch y5 ha t4 t5 hp;have hx:idx c.shape c.axis=some (c.shape.getD c.axis.toNat 0):=idx_get y5 t3;rw [← t2] at e;rw [redV_4 k4,hk,redFs];simp only [k4,show ¬ (4:Int)=1 by decide,show ¬ (4:Int)=2 by decide,show ¬ (4:Int)=3 by decide,if_false,if_true,i0,Qe,e1,hx,e,List.getD_cons_zero]
  | tra k k5 hk t1 t2 t3 =>
   obtain ⟨i1,j1,p1,l1,e1⟩:=sub k (by rw [hk]; simp);have i0:idx [k] 0=some k:=rfl;have hp:=Tra_pre (Q:=prpR c) i1 t1 t2 t3 (fun x _ hb ha hp hf=>S.per c k hg k5 hk x hb ha hp hf);have hd:=tra_dia (nodesF_f (GS_GK c hg).1).1 k5 hk y5;have e:=rTra_ok i1 j1 y5 hch t1 t2 hd (fun x hx=>(i1.prp x hx).2.n) hp;rw [redV_5 k5,hk,redFs];simp only [k5,show ¬ (5:Int)=1 by decide,show ¬ (5:Int)=2 by decide,show ¬ (5:Int)=3 by decide,show ¬ (5:Int)=4 by decide,if_false,if_true,i0,Qe,e1,e,List.getD_cons_zero]
  | rsh k k6 hk =>
   obtain ⟨i1,j1,p1,l1,e1⟩:=sub k (by rw [hk]; simp);have i0:idx [k] 0=some k:=rfl;have hS:Sm c.shape.length:=Sm_of (show c.shape.length≤1000 by omega);rw [redV_6 k6,kidS_of hk,hk,redFs];simp only [k6,show ¬ (6:Int)=1 by decide,show ¬ (6:Int)=2 by decide,show ¬ (6:Int)=3 by decide,show ¬ (6:Int)=4 by decide,show ¬ (6:Int)=5 by decide,show ¬ (6:Int)=7 by decide,if_false,if_true,i0,Qe,e1,Equal_ok' _ _ hS,List.getD_cons_zero];by_cases hs:k.shape=c.shape
   ·have er:rshR (redF rshR k) k.shape c.shape=redF rshR k:=if_pos hs;rw [er];simp only [hs,decide_true,if_true]
   ·obtain ⟨P,q1,q2,q3,hi⟩:=rsh_diff GS_GK hb h2 (GS_all h1 h2) hg k6 hk i1
    have er:rshR (redF rshR k) k.shape c.shape=P.map toPc:=by
     refine (if_neg hs).trans ?_;rw [q1,zU,q2,zU,q3]; rfl
    rw [er];simp only [hs,zY,j6,if_false,q1,q2,q3,Qe,bk_map]
  | cat k kk k7 hk t1 t2 t3 t4 f1 f2 f3 =>
   obtain ⟨i1,j1,p1,l1,e1⟩:=sub k (by rw [hk]; simp);obtain ⟨i2,j2,p2,l2,e2⟩:=sub kk (by rw [hk]; simp);have i0:idx [k,kk] 0=some k:=rfl;have i0':idx [k,kk] 1=some kk:=rfl
   have hp:=Cat_pre (Q:=prpR c) (s:=c.shape) (k:=c.axis.toNat) (n1:=k.shape.getD c.axis.toNat 0) (n2:=kk.shape.getD c.axis.toNat 0) (P1:=prpR k) (P2:=prpR kk) (by rw [f1]; exact i1) (by rw [f2]; exact i2) hch (by rw [f1]; exact j1) (by rw [f2]; exact j2) f3
    (fun x _ hb ha hp=>S.ct1 c k kk hg k7 hk x (by rwa [f1] at hb) (by rw [t3]; exact ha) hp) (fun x _ hb ha hp=>S.ct2 c k kk hg k7 hk x (by rwa [f2] at hb) (by rw [t4]; exact ha) hp)
   have e:=rCat_ok (s:=c.shape) (k:=c.axis.toNat) (n1:=k.shape.getD c.axis.toNat 0) (n2:=kk.shape.getD c.axis.toNat 0) (P1:=prpR k) (P2:=prpR kk) (by rw [f1]; exact i1) (by rw [f2]; exact i2) (by rw [f1]; exact j1) (by rw [f2]; exact j2) (by rw [f1]; omega) (by rw [f2]; omega) f3 (fun x hx=>(i1.prp x hx).2.n) hp;have hx:idx k.shape c.axis=some (k.shape.getD c.axis.toNat 0):=idx_get y5 y5;rw [← t1] at e;rw [redV_7 k7,kidS_of hk,hk,redFs,redFs,redFs];simp only [k7,show ¬ (7:Int)=1 by decide,show ¬ (7:Int)=2 by decide,show ¬ (7:Int)=3 by decide,show ¬ (7:Int)=4 by decide,show ¬ (7:Int)=5 by decide,if_false,if_true,i0,i0',Qe,e1,e2,hx,e,List.getD_cons_zero,List.getD_cons_succ]
end
theorem lP_L1:∀ (l p:List Qc),p.length+l.length≤50000→Zk ((p++l).map bkP,p,(p.length:Int))=some (p++l)
 | [],p,h=>by
  rw [Zk]
  have:¬ ((p.length:Int) < (((p++[]).map bkP).length:Int)):=by simp
  rw [if_neg this,jU]
 | x::l,p,h=>by
  rw [Zk];have h1:((p.length:Int) < (((p++x::l).map bkP).length:Int)):=by simp; omega
  have h2:idx ((p++x::l).map bkP) (p.length:Int)=some (bkP x):=idx_of y7;have hpl:p.length≤50000:=by simp at h; omega
  have ih:=lP_L1 l (p++[x]) (by simp at h ⊢; omega);rw [← Qr] at ih;have hW:W ((p.length:Int)+1)=((p++[x]).length:Int):=W_len y5;have ha:app 120 p [(⟨⟨(bkP x).box.lo,(bkP x).box.hi⟩,⟨(bkP x).access.kind,(bkP x).access.buffer,(bkP x).access.base,(bkP x).access.strides,(bkP x).access.start,(bkP x).access.step,(bkP x).access.mod⟩⟩:Qc)]=some (p++[x]):=app_le y6 y5;simp only [h1,if_true,h2,Qe,ha,hW,ih]
theorem lP_ok {l:List Qc} (h:l.length≤50000):YU (l.map bkP)=some l:=by
 have e:=lP_L1 l [] (by simpa using h);have e':Zk (l.map bkP,[],0)=some l:=e;simp only [YU,e',Qe]
def bufK (v:List Int) (x:Qc):List Int:=if x.access.kind≠1 then insK v x.access.buffer else v
theorem buf_L1:∀ (l p:List Qc) (v:List Int),p.length+l.length≤50000→Zc (p++l,v,(p.length:Int))=some (l.foldl bufK v)
 | [],p,v,h=>by
  rw [Zc];simp only [Q4,if_false]; rfl
 | x::l,p,v,h=>by
  rw [Zc];have hpl:p.length≤50000:=by simp at h; omega
  have ih:=fun v=>buf_L1 l (p++[x]) v (by simp at h ⊢; omega)
  simp only [← Qr] at ih;have hW:W ((p.length:Int)+1)=((p++[x]).length:Int):=W_len y5;simp only [QU,if_true,Qy,Qe,hW,ih,List.foldl_cons,bufK];by_cases c:x.access.kind=1
  ·simp only [c,ne_eq,not_true,if_false]
  ·simp only [c,ne_eq,zB,if_true]
theorem ins_nod {v:List Int} {b:Int} (h:v.Nodup):(insK v b).Nodup:=by
 unfold insK;split
 ·exact h
 ·rename_i hb;rw [List.nodup_append];exact ⟨h,by simp,fun a ha c hc=>by simp at hc; subst hc; exact fun e=>hb (e ▸ ha)⟩
theorem ins_mem {v:List Int} {b n:Int}:n∈insK v b↔n∈v∨n=b:=by
 unfold insK;split
 ·rename_i hb;exact ⟨.inl,fun h=>h.elim id fun e=>e ▸ hb⟩
 ·simp
theorem buf_nod:∀ (l:List Qc) (v:List Int),v.Nodup→(l.foldl bufK v).Nodup
 | [],_,h=>h
 | x::l,v,h=>by
  rw [List.foldl_cons];refine buf_nod l _ ?_;unfold bufK;split
  ·exact ins_nod h
  ·exact h
theorem buf_mem:∀ (l:List Qc) (v:List Int) (n:Int),n∈l.foldl bufK v↔n∈v∨∃ x∈l,x.access.kind≠1∧x.access.buffer=n
 | [],v,n=>by simp
 | x::l,v,n=>by
  rw [List.foldl_cons,buf_mem l];unfold bufK;by_cases c:x.access.kind=1
  ·rw [if_neg (by simpa using c)];simp [c]
  ·rw [if_pos c,ins_mem];constructor
   ·rintro ((h|h)|⟨y,hy,h⟩)
    ·exact .inl h
    ·exact .inr ⟨x,jM ..,c,h.symm⟩
    ·exact .inr ⟨y,jG _ hy,h⟩
   ·rintro (h|⟨y,hy,h1,h2⟩)
    ·exact .inl (.inl h)
    ·rcases List.mem_cons.1 hy with rfl|hy
     ·exact .inl (.inr h2.symm)
     ·exact .inr ⟨y,hy,h1,h2⟩
theorem nod_Z:∀ {l:List Int},l.Nodup→nodZ l=true
 | [],_=>rfl
 | x::l,h=>by
  obtain ⟨h1,h2⟩:=List.nodup_cons.1 h;rw [nodZ,nod_Z h2,Bool.and_true,Bool.not_eq_true']
  simpa using h1
def bufL (l:List Qc):List Int:=sortZ (l.foldl bufK [])
theorem bufL_mem {l:List Qc} {n:Int}:n∈bufL l↔∃ x∈l,x.access.kind≠1∧x.access.buffer=n:=by
 unfold bufL;rw [(sortZ_perm _).mem_iff,buf_mem]; simp
theorem bufL_lt (l:List Qc):(bufL l).Pairwise (· < ·):=by
 have h1:=sortZ_le (l.foldl bufK []);have h2:(bufL l).Nodup:=(sortZ_perm _).nodup_iff.2 (buf_nod l [] .nil);unfold bufL at h2 ⊢;exact (List.pairwise_and_iff.2 ⟨h1,h2⟩).imp fun h=>by omega
theorem bufL_ok {l:List Qc} (h:l.length≤50000) (hb:∀ x∈l,x.access.kind≠1→0≤x.access.buffer∧x.access.buffer≤100000):Xf l=some (bufL l):=by
 have e:=buf_L1 l [] [] (by simpa using h);have e':Zc (l,[],0)=some (l.foldl bufK []):=e
 have hlen:(l.foldl bufK []).length≤1000000:=by
  have:∀ (l:List Qc) (v:List Int),(l.foldl bufK v).length≤v.length+l.length:=fun l=>by
   induction l with
   | nil=>intro v; simp
   | cons x l ih =>
    intro v;rw [List.foldl_cons];have:=ih (bufK v x)
    have:(bufK v x).length≤v.length+1:=by unfold bufK insK; split <;> (try split) <;> simp
    simp; omega
  have:=this l [];simp at this; omega
 have es:sortK (l.foldl bufK [])=some (bufL l):=by
  unfold sortK
  have hall:((l.foldl bufK []).all fun n=>decide (-9223372036854775808≤n∧n≤9223372036854775807))=true:=by
   rw [j8];intro n hn;rcases (buf_mem l [] n).1 hn with h|⟨x,hx,h1,rfl⟩
   ·simp at h
   ·have:=hb x hx h1;exact decide_eq_true y5
  exact if_pos ⟨nod_Z (buf_nod l [] .nil),hlen,hall⟩
 simp only [Xf,e',Qe,QP,es]
theorem reads_L1 (b:Int):∀ (l p:List Qc),p.length+l.length≤50000→Zy ((p++l).map bkP,b,(p.length:Int))=some (if (∃ x∈l,x.access.kind≠1∧x.access.buffer=b) then .inl () else .inr ())
 | [],p,h=>by
  rw [Zy]
  have:¬ ((p.length:Int) < (((p++[]).map bkP).length:Int)):=by simp
  simp only [this,if_false]; simp
 | x::l,p,h=>by
  rw [Zy];have h1:((p.length:Int) < (((p++x::l).map bkP).length:Int)):=by simp; omega
  have h2:idx ((p++x::l).map bkP) (p.length:Int)=some (bkP x):=idx_of y7;have hpl:p.length≤50000:=by simp at h; omega
  have ih:=reads_L1 b l (p++[x]) (by simp at h ⊢; omega);rw [← Qr] at ih;have hW:W ((p.length:Int)+1)=((p++[x]).length:Int):=W_len y5;have ek:(bkP x).access.kind=x.access.kind:=rfl;have eb:(bkP x).access.buffer=x.access.buffer:=rfl;simp only [h1,if_true,h2,Qe,ek,eb,hW,ih];by_cases c:x.access.kind=1
  ·simp only [c,ne_eq,not_true,if_false,Qe,j6];simp [c]
  ·by_cases d:x.access.buffer=b
   ·simp only [c,d,ne_eq,zB,if_true,Qe,beq_self_eq_true];rw [if_pos ⟨x,jM ..,c,d⟩]
   ·simp only [c,d,ne_eq,zB,if_true,Qe,beq_iff_eq,if_false];simp [d]
theorem reads_ok {l:List Qc} (b:Int) (h:l.length≤50000):Xj (l.map bkP,b)=some (decide (b∈bufL l)):=by
 have e:=reads_L1 b l [] (by simpa using h);have e':Zy (l.map bkP,b,0)=_:=e;simp only [Xj,e',Qe,← bufL_mem];by_cases c:b∈bufL l
 ·simp only [c,if_true,decide_true]
 ·simp only [c,if_false,zY]
theorem count_L1 (k:Int):∀ (l p:List Qc) (v:Nat),p.length+l.length≤50000→v≤p.length→Zh ((p++l).map bkP,k,(v:Int),(p.length:Int))=some ((v+kindN k l:Nat):Int)
 | [],p,v,h,hv=>by
  rw [Zh]
  have:¬ ((p.length:Int) < (((p++[]).map bkP).length:Int)):=by simp
  simp only [this,if_false]; simp [kindN]
 | x::l,p,v,h,hv=>by
  rw [Zh];have h1:((p.length:Int) < (((p++x::l).map bkP).length:Int)):=by simp; omega
  have h2:idx ((p++x::l).map bkP) (p.length:Int)=some (bkP x):=idx_of y7;have hpl:p.length≤50000:=by simp at h; omega
  have ih:=fun v hv=>count_L1 k l (p++[x]) v (by simp at h ⊢; omega) hv
  simp only [← Qr] at ih;have hW:W ((p.length:Int)+1)=((p++[x]).length:Int):=W_len y5;have hWv:W ((v:Int)+1)=((v+1:Nat):Int):=W_nat y5;have ek:(bkP x).access.kind=x.access.kind:=rfl;simp only [h1,if_true,h2,Qe,ek,hW,hWv];by_cases c:x.access.kind=k
  ·simp only [c,if_true];have e:kindN k (x::l)=kindN k l+1:=List.countP_cons_of_pos (by simpa using c);rw [ih (v+1) y6,e];congr 2; omega
  ·simp only [c,if_false];have e:kindN k (x::l)=kindN k l:=List.countP_cons_of_neg (by simpa using c);rw [ih v y6,e]
theorem count_ok {l:List Qc} (k:Int) (h:l.length≤50000):Yo (l.map bkP,k)=some (kindN k l:Int):=by
 have e:=count_L1 k l [] 0 (by simpa using h) (j7 _);rw [zW] at e;have e':Zh (l.map bkP,k,0,0)=some (kindN k l:Int):=e;simp only [Yo,e',Qe]
theorem cnt_L1 {l:List Qc} (h:l.length≤50000) (bs:List (List Int)) (hbs:bs.length≤1000) (hbl:(bufL l).length≤100000) (p0:Qa):∀ (m b:Nat) (q r:List Int),b+m=bs.length→bufL l=q++r→(∀ x∈q,x < (b:Int))→(∀ x∈r,(b:Int)≤x∧x < (bs.length:Int)) →
  QL (bs,l.map bkP,bufL l,l,p0,(q.length:Int),(b:Int))=some (.inr ((bufL l).length:Int))
 | 0,b,q,r,h1,h2,h3,h4=>by
  rw [QL]
  have hr:r=[]:=by
   cases r with
   | nil=>rfl
   | cons x r=>have:=h4 x (jM ..); omega
  subst hr;rw [jU] at h2
  have:¬ ((b:Int) < (bs.length:Int)):=by omega
  simp only [this,if_false,h2]
 | m+1,b,q,r,h1,h2,h3,h4=>by
  rw [QL];have g:((b:Int) < (bs.length:Int)):=by omega
  have hWb:W ((b:Int)+1)=((b+1:Nat):Int):=W_nat y5;have hql:q.length≤100000:=by rw [h2] at hbl; simp at hbl; omega
  have hWq:W ((q.length:Int)+1)=((q.length+1:Nat):Int):=W_nat y5;simp only [g,if_true,reads_ok _ h,Qe];by_cases c:(b:Int)∈bufL l
  ·have hbr:(b:Int)∈r:=by
    rw [h2] at c;rcases List.mem_append.1 c with c|c
    ·have:=h3 _ c; omega
    ·exact c
   cases r with
   | nil=>simp at hbr
   | cons x r =>
    have hlt:=bufL_lt l;rw [h2,List.pairwise_append] at hlt
    have hx:x=(b:Int):=by
     have:=h4 x (jM ..);rcases List.mem_cons.1 hbr with e|e
     ·exact e.symm
     ·have:=(List.pairwise_cons.1 hlt.2.1).1 _ e;omega
    subst hx;have hi:idx (bufL l) (q.length:Int)=some (b:Int):=by rw [h2]; exact Qy
    have hnl:¬ ((q.length:Int)≥((bufL l).length:Int)):=by rw [h2]; simp; omega
    have ih:=cnt_L1 h bs hbs hbl p0 m (b+1) (q++[(b:Int)]) r y5 (by rw [h2]; simp) (fun y hy=>by
     rcases List.mem_append.1 hy with hy|hy
     ·have:=h3 y hy; omega
     ·simp at hy; omega) (fun y hy=>by
     have:=(List.pairwise_cons.1 hlt.2.1).1 y hy;have:=h4 y (jG _ hy);omega)
    rw [jV,List.length_singleton] at ih;simp only [c,decide_true,jO,if_false,hnl,hi,Qe,bne_self_eq_false,j6,hWq,hWb,ih]
  ·have ih:=cnt_L1 h bs hbs hbl p0 m (b+1) q r y5 h2 (fun y hy=>by have:=h3 y hy; omega) (fun y hy=>by
    have h5:=h4 y hy
    have:y≠(b:Int):=fun e=>c (by rw [h2]; exact List.mem_append_right _ (e ▸ hy))
    omega)
   simp only [c,zY,if_true,hWb,ih]
theorem DnfCounts_ok (c:Qa) (bs:List (List Int)):YQ (c,bs)=some true:=by
 have ha:X3 ()=some true:=rfl;obtain ⟨b,e1,hb⟩:=Small_ok c bs 200 y9;have eta:(⟨c.kind,c.shape,c.buffer,c.starts,c.axis,c.amount,c.perm,c.kids⟩:Qa)=c:=by cases c; rfl
 unfold YQ;simp only [ha,Qe,jO,if_false,eta,e1];cases b with
 | false=>simp only [Bool.not_false,if_true,Qe]
 | true =>
  obtain ⟨h1,h2,h3,h4,h5⟩:=hb rfl;have hg:GS bs 200 c:=⟨h2,h3⟩;have S:=GS_St (bs:=bs) (m:=200) y5 y9 y9;have hi:=red_inv S GS_GK (szC c) c (j7 _) hg;have e2:=red_ref (bs:=bs) (m:=200) y5 y9 y9 (szC c) c (j7 _) hg;obtain ⟨hch,hpr,hln⟩:=GS_GK.chk hg;generalize redF rshR c=l at hi e2;have hl4:=hi.len4 hch y5;have hl:l.length≤50000:=by omega
  have hk:∀ x∈l,x.access.kind=1∨x.access.kind=2∨x.access.kind=3:=fun x hx=>(hi.acc x hx).imp id fun h=>h.1
  have hbuf:∀ x∈l,x.access.kind≠1→0≤x.access.buffer∧x.access.buffer < (bs.length:Int):=fun x hx hne=>by
   have hbx:=hi.box x hx;have hv:vld c.shape x.box.lo=true:=(okB_lo hbx).1;have hh:hasP x.box.lo x=true:=(okB_lo hbx).2;have ho:=(hi.prp x hx).1 _ hv hh;have hbd:=org_bnd GS_GK (m:=200) (bs:=bs) y5 y9 _ c (j7 _) hg _ hv;rw [← ho] at hbd
   have e1:(atC x.access x.box.lo).1=false∧(atC x.access x.box.lo).2.1=x.access.buffer:=by
    unfold atC;rw [if_neg hne];split <;> exact ⟨rfl,rfl⟩
   obtain ⟨b1,b2,b3,b4⟩:=hbd;rw [e1.2] at b1 b4;exact ⟨b1.1,b4 e1.1⟩
  have e3:=lP_ok hl;have e4:=bufL_ok hl fun x hx hne=>by have:=hbuf x hx hne; omega
  have hbl:(bufL l).length≤100000:=by
   have h6:(bufL l).Nodup:=(bufL_lt l).imp fun h e=>by omega
   have h7:(bufL l).length≤((List.range bs.length).map fun n:Nat=>(n:Int)).length:=sub_len h6 fun n hn=>by
    obtain ⟨x,hx,k1,rfl⟩:=bufL_mem.1 hn;have:=hbuf x hx k1;exact List.mem_map.2 ⟨x.access.buffer.toNat,List.mem_range.2 y5,by omega⟩
   simp at h7; omega
  have e5:=cnt_L1 hl bs y5 hbl c bs.length 0 [] (bufL l) y5 rfl (fun x hx=>by simp at hx) (fun n hn=>by
   obtain ⟨x,hx,k1,rfl⟩:=bufL_mem.1 hn;have:=hbuf x hx k1;exact ⟨by omega,this.2⟩)
  have e5':QL (bs,l.map bkP,bufL l,l,c,0,0)=some (.inr ((bufL l).length:Int)):=e5;simp only [Bool.not_true,j6,if_false,Qe,e2,e3,e4,e5',if_true,Kinds_ok hl hk,count_ok _ hl,beq_self_eq_true,Bool.and_self]
set_option maxHeartbeats 2000000
theorem ua3:prog.underlying 3=some (TypeDesc.int IntKind.i64):=by kernel_rfl
theorem ua22:prog.underlying 22=some (TypeDesc.slice 3):=by kernel_rfl
theorem ua25 : prog.underlying 25 = some (TypeDesc.struct { toList := [{ name := "Kind", type := 3, offset := 0, embedded := false, tag := "", pkgPath := "", byteOffset := 0 }, { name := "Shape", type := 22, offset := 1, embedded := false, tag := "", pkgPath := "", byteOffset := 8 }, { name := "Buffer", type := 3, offset := 2, embedded := false, tag := "", pkgPath := "", byteOffset := 32 }, { name := "Starts", type := 22, offset := 3, embedded := false, tag := "", pkgPath := "", byteOffset := 40 }, { name := "Axis", type := 3, offset := 4, embedded := false, tag := "", pkgPath := "", byteOffset := 64 }, { name := "Amount", type := 3, offset := 5, embedded := false, tag := "", pkgPath := "", byteOffset := 72 }, { name := "Perm", type := 22, offset := 6, embedded := false, tag := "", pkgPath := "", byteOffset := 80 }, { name := "Kids", type := 23, offset := 7, embedded := false, tag := "", pkgPath := "", byteOffset := 104 }] }) := by kernel_rfl
theorem ua23:prog.underlying 23=some (TypeDesc.slice 25):=by kernel_rfl
theorem ua26:prog.underlying 26=some (TypeDesc.slice 22):=by kernel_rfl
theorem ua4:prog.underlying 4=some TypeDesc.bool:=by kernel_rfl
theorem exists_map {α β:Type} {f:β→α} {p:β→Prop}:∀ {L:List α},(∀ x∈L,∃ y,x=f y∧p y)→∃ l:List β,L=l.map f∧∀ y∈l,p y
 | [],_=>⟨[],rfl,fun y h=>by cases h⟩
 | x::L,h=>by
  obtain ⟨y,rfl,hy⟩:=h x (jM ..);obtain ⟨l,rfl,hl⟩:=exists_map (fun x hx=>h x (jG _ hx))
  exact ⟨y::l,rfl,fun z hz=>by
   rcases List.mem_cons.1 hz with rfl|hz
   ·exact hy
   ·exact hl z hz⟩
variable {B:Nat} {n:Nat} {cs:List Dat}
theorem tc3 (h:TyC prog B n 3 cs):∃ m:Int,cs=[(Qh m)]∧((-9223372036854775808)≤m∧m≤9223372036854775807):=by
 cases n with
 | zero=>exact h.elim
 | succ n =>
  simp only [TyC,ua3] at h;obtain ⟨m,rfl,hm⟩:=h;refine ⟨m,rfl,?_⟩
  simpa [Lit.wf,IntKind.min,IntKind.max,IntKind.signed,IntKind.bits] using hm
def ok22 (B:Nat) (x:(List Int)):Prop:=x.length≤B∧∀ m∈x,((-9223372036854775808)≤m∧m≤9223372036854775807)
theorem tc22 (h:TyC prog B n 22 cs):∃ l:(List Int),cs=[.lst ((List.map Qh) l)]∧ok22 B l:=by
 cases n with
 | zero=>exact h.elim
 | succ n =>
  simp only [TyC,ua22] at h;obtain ⟨L,rfl,hl,hx⟩:=h;obtain ⟨l,rfl,hm⟩:=exists_map (f:=fun m=>[(Qh m)]) (p:=fun m=>((-9223372036854775808)≤m∧m≤9223372036854775807)) (fun x hx'=>tc3 (hx x hx'));refine ⟨l,?_,by simpa using hl,hm⟩
  have e:(l.map (fun m=>[(Qh m)])).map (elemD prog 3)=l.map Qh:=by
   rw [zD]; exact List.map_congr_left (fun m _=>by simp only [Function.comp_apply]; simp [elemD,aggB,ua3])
  rw [e]
mutual
def ok25 (B:Nat):Qa→Prop
 | ⟨kind,shape,buffer,starts,axis,amount,perm,kids⟩=>(((-9223372036854775808)≤kind∧kind≤9223372036854775807))∧((ok22 B shape))∧(((-9223372036854775808)≤buffer∧buffer≤9223372036854775807))∧((ok22 B starts))∧(((-9223372036854775808)≤axis∧axis≤9223372036854775807))∧(((-9223372036854775808)≤amount∧amount≤9223372036854775807))∧((ok22 B perm))∧(kids.length≤B∧okl25 B kids)
def okl25 (B:Nat):List Qa→Prop
 | []=>True
 | k::ks=>ok25 B k∧okl25 B ks
end
theorem okl25_of:∀ {l:List Qa},(∀ y∈l,ok25 B y)→okl25 B l
 | [],_=>by rw [okl25]; trivial
 | y::l,h=>by rw [okl25]; exact ⟨h y (jM ..),okl25_of fun z hz=>h z (jG _ hz)⟩
theorem ts25 (ih:∀ cs,TyC prog B n 23 cs→∃ l:List Qa,cs=[.lst (Qa.toDs l)]∧l.length≤B∧okl25 B l) (h:TyC prog B (n+1) 25 cs):∃ x:Qa,cs=[(Qh x.kind),(.lst ((List.map Qh) x.shape)),(Qh x.buffer),(.lst ((List.map Qh) x.starts)),(Qh x.axis),(Qh x.amount),(.lst ((List.map Qh) x.perm)),(.lst (Qa.toDs x.kids))]∧ok25 B x:=by
 simp only [TyC,ua25,List.foldr] at h;obtain ⟨_,_,rfl,h0,_,_,rfl,h1,_,_,rfl,h2,_,_,rfl,h3,_,_,rfl,h4,_,_,rfl,h5,_,_,rfl,h6,_,_,rfl,h7,rfl⟩:=h;obtain ⟨m0,rfl,i0⟩:=tc3 h0;obtain ⟨m1,rfl,i1⟩:=tc22 h1;obtain ⟨m2,rfl,i2⟩:=tc3 h2;obtain ⟨m3,rfl,i3⟩:=tc22 h3;obtain ⟨m4,rfl,i4⟩:=tc3 h4;obtain ⟨m5,rfl,i5⟩:=tc3 h5;obtain ⟨m6,rfl,i6⟩:=tc22 h6;obtain ⟨m7,rfl,i7⟩:=ih _ h7;exact ⟨⟨m0,m1,m2,m3,m4,m5,m6,m7⟩,rfl,by rw [ok25]; exact ⟨i0,i1,i2,i3,i4,i5,i6,i7⟩⟩
theorem tl25 (ih:∀ cs,TyC prog B n 25 cs→∃ x:Qa,cs=[(Qh x.kind),(.lst ((List.map Qh) x.shape)),(Qh x.buffer),(.lst ((List.map Qh) x.starts)),(Qh x.axis),(Qh x.amount),(.lst ((List.map Qh) x.perm)),(.lst (Qa.toDs x.kids))]∧ok25 B x) (h:TyC prog B (n+1) 23 cs):∃ l:List Qa,cs=[.lst (Qa.toDs l)]∧l.length≤B∧okl25 B l:=by
 simp only [TyC,ua23] at h;obtain ⟨L,rfl,hl,hx⟩:=h;obtain ⟨l,rfl,hm⟩:=exists_map (f:=fun (x:Qa)=>[(Qh x.kind),(.lst ((List.map Qh) x.shape)),(Qh x.buffer),(.lst ((List.map Qh) x.starts)),(Qh x.axis),(Qh x.amount),(.lst ((List.map Qh) x.perm)),(.lst (Qa.toDs x.kids))]) (p:=fun x=>ok25 B x) (fun c hc=>ih c (hx c hc));refine ⟨l,?_,by simpa using hl,okl25_of hm⟩
 have e:(l.map (fun (x:Qa)=>[(Qh x.kind),(.lst ((List.map Qh) x.shape)),(Qh x.buffer),(.lst ((List.map Qh) x.starts)),(Qh x.axis),(Qh x.amount),(.lst ((List.map Qh) x.perm)),(.lst (Qa.toDs x.kids))])).map (elemD prog 25)=Qa.toDs l:=by
  rw [Qa.toDs_eq,zD]; exact List.map_congr_left (fun m _=>by rw [Qa.toD_eq]; simp only [Function.comp_apply]; simp [elemD,aggB,ua25]; rfl)
 rw [e]
theorem tr25:∀ n,(∀ cs,TyC prog B n 25 cs→∃ x:Qa,cs=[(Qh x.kind),(.lst ((List.map Qh) x.shape)),(Qh x.buffer),(.lst ((List.map Qh) x.starts)),(Qh x.axis),(Qh x.amount),(.lst ((List.map Qh) x.perm)),(.lst (Qa.toDs x.kids))]∧ok25 B x)∧(∀ cs,TyC prog B n 23 cs→∃ l:List Qa,cs=[.lst (Qa.toDs l)]∧l.length≤B∧okl25 B l)
 | 0=>⟨fun _ h=>h.elim,fun _ h=>h.elim⟩
 | n+1=>⟨fun _ h=>ts25 (tr25 n).2 h,fun _ h=>tl25 (tr25 n).1 h⟩
theorem tc25 (h:TyC prog B n 25 cs):∃ x:Qa,cs=[(Qh x.kind),(.lst ((List.map Qh) x.shape)),(Qh x.buffer),(.lst ((List.map Qh) x.starts)),(Qh x.axis),(Qh x.amount),(.lst ((List.map Qh) x.perm)),(.lst (Qa.toDs x.kids))]∧ok25 B x:=(tr25 n).1 cs h
def ok26 (B:Nat) (x:(List (List Int))):Prop:=x.length≤B∧∀ m∈x,(ok22 B m)
theorem tc26 (h:TyC prog B n 26 cs):∃ l:(List (List Int)),cs=[.lst ((List.map (fun l=>Dat.lst ((List.map Qh) l))) l)]∧ok26 B l:=by
 cases n with
 | zero=>exact h.elim
 | succ n =>
  simp only [TyC,ua26] at h;obtain ⟨L,rfl,hl,hx⟩:=h;obtain ⟨l,rfl,hm⟩:=exists_map (f:=fun m=>[(.lst ((List.map Qh) m))]) (p:=fun m=>(ok22 B m)) (fun x hx'=>tc22 (hx x hx'));refine ⟨l,?_,by simpa using hl,hm⟩
  have e:(l.map (fun m=>[(.lst ((List.map Qh) m))])).map (elemD prog 22)=l.map (fun l=>Dat.lst ((List.map Qh) l)):=by
   rw [zD]; exact List.map_congr_left (fun m _=>by simp only [Function.comp_apply]; simp [elemD,aggB,ua22])
  rw [e]
theorem ty25 {d:Dat} (h:TyA prog B 25 d):∃ m:Qa,d=(Qa.ex m)∧(ok25 B m):=by
 obtain ⟨n,cs,h,hd⟩:=h;obtain ⟨m,rfl,hm⟩:=tc25 h;exact ⟨m,by rw [hd]; simp [elemD,aggB,ua25]; rfl,hm⟩
theorem ty26 {d:Dat} (h:TyA prog B 26 d):∃ m:(List (List Int)),d=(.lst ((List.map (fun l=>Dat.lst ((List.map Qh) l))) m))∧(ok26 B m):=by
 obtain ⟨n,cs,h,hd⟩:=h;obtain ⟨m,rfl,hm⟩:=tc26 h;exact ⟨m,by rw [hd]; simp [elemD,aggB,ua26],hm⟩
def argTs:List TypeId:=[3,22,25,23,26,4]
theorem argTs_closed:closedTs prog argTs=true:=by kernel_rfl
theorem laidOut:laidOutB prog=true:=by kernel_rfl
theorem summ:SummOK prog env:=⟨(fun f G h ds p hg=>by
  unfold env at h; dsimp only at h;split at h
  ·cases h; cases hg
  split at h
  ·cases h; cases hg
  cases h),
 (fun f G h=>by
  unfold env at h; dsimp only at h;split at h
  ·rename_i e; subst e; cases h; exact ⟨by kernel_rfl,sort_call⟩
  split at h
  ·rename_i e; subst e; cases h; exact ⟨by kernel_rfl,sorted_call⟩
  cases h)⟩
theorem mixed:prog.follows .mixedOrders=true:=by kernel_rfl
theorem pure_of {f:FuncId} {dss:List Dat} {p:PV} (ho:p.out=true) (h:PC prog env f (dss.map .dat) [] p []):PureCall prog f dss p:=by
 obtain ⟨N,hN⟩:=h;exact pure_sound summ mixed (hN N (j7 _)) ho
end Go.Proofs.Tryz
