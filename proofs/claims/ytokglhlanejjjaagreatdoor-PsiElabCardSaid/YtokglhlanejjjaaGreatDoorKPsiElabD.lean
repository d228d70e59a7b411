/-
 Models of functions, their walks, and plain laws.
-/
import Derived.Test.YtokglhlanejjjaaGreatDoorPmLaw
import Derived.Test.YtokglhlanejjjaaGreatDoorKPsiElabC
namespace Go.Proofs.Tryz
open Go Go.Pm
set_option linter.all false
set_option maxRecDepth 2000
theorem uniqB:∀ {l:List Qg},l.Pairwise (fun a b=>a.name≠b.name)→∀ a∈l,∀ b∈l,a.name=b.name→a=b
 | [],_,a,ha,_,_,_=>(nomatch ha)
 | x::l,h,a,ha,b,hb,e=>by
  obtain ⟨h1,h2⟩:=List.pairwise_cons.1 h;rcases List.mem_cons.1 ha with ha'|ha'
  ·rcases List.mem_cons.1 hb with hb'|hb'
   ·rw [ha',hb']
   ·exact absurd (ha' ▸ e) (h1 b hb')
  ·rcases List.mem_cons.1 hb with hb'|hb'
   ·exact absurd (hb' ▸ e.symm) (h1 a ha')
   ·exact uniqB h2 a ha' b hb' e
theorem get_L1 (l:List Qg) (hl:l.length≤1000) (nm:ByteArray):∀ (s p:List Qg),l=p++s→∃ r,XF (l,nm,(p.length:Int))=some r∧(∀ b∈s,b.name=nm→(∀ x∈l,x.name=nm→x=b)→r=.inl (b.value.shape,b.value.data))∧((∀ b∈s,b.name≠nm)→r=.inr ())
 | [],p,e=>by
  rw [XF]
  have:¬ ((p.length:Int) < (l.length:Int)):=by rw [e]; simp
  rw [if_neg this];exact ⟨_,rfl,fun b hb=>(nomatch hb),fun _=>rfl⟩
 | y::s,p,e=>by
  obtain ⟨r,er,hr,hr'⟩:=get_L1 l hl nm s (p++[y]) (by rw [e]; simp);rw [XF];have h1:((p.length:Int) < (l.length:Int)):=by rw [e]; exact QN
  have hi:idx l (p.length:Int)=some y:=by rw [e]; exact Qz
  have hw:W ((p.length:Int)+1)=((p++[y]).length:Int):=by
   rw [e] at hl; exact mid_W (Sm_le hl)
  simp only [h1,if_true,hi,Qb,hw,er];by_cases hy:y.name=nm
  ·rw [if_pos hy];refine ⟨_,rfl,fun b hb hn hu=>?_,fun h=>absurd hy (h y (jL ..))⟩;rw [hu y (by rw [e]; simp) hy]
  ·rw [if_neg hy];refine ⟨r,rfl,fun b hb hn hu=>?_,fun h=>hr' fun b hb=>h b (jF _ hb)⟩;rcases List.mem_cons.1 hb with rfl|hb
   ·exact absurd hn hy
   ·exact hr b hb hn hu
theorem Get_both {l:List Qg} (hl:okL l) (nm:ByteArray):Zw (nm,smOf l 0,l,l)=some ([],[],false)∧Qag (l,nm)=some (⟨[],[]⟩,false) ∨
  ∃ b∈l,b.name=nm∧Zw (nm,smOf l 0,l,l)=some (b.value.shape,b.value.data,true)∧Qag (l,nm)=some (b.value,true):=by
 obtain ⟨r,er,hr,hr'⟩:=get_L1 l (by have:=hl.1; omega) nm l [] rfl;simp only [jK,jI] at er;by_cases hq:∃ b∈l,b.name=nm
 ·rcases Get_is hl nm with h|⟨b,hb,hn,h⟩
  ·obtain ⟨b,hb,hn⟩:=hq;unfold Zw Xt Xd at h;rcases smOf_get (nm:=nm) l 0 with ⟨g,g2⟩|⟨i,hi,g,gn⟩
   ·exact absurd hn (g2 b hb)
   ·rw [zO] at g;have e:lookS (smOf l 0) nm=((i:Int),true):=by rw [lookS,g]; rfl
    have hm:l[i]∈l:=z0 hi;have h1:=hl.2.1 _ hm;have ec:X4 (⟨l[i].value.shape,l[i].value.data⟩:Qo)=some l[i].value:=Copy_is (a:=l[i].value) (by have:=h1.1; show _≤1000; omega) (by have:=h1.2.1; show _≤1000; omega);simp only [e,Qb,jN,if_false,idx_ok hi,ec] at h;simp at h
  ·refine Or.inr ⟨b,hb,hn,h,?_⟩;have e:=hr b hb hn (fun x hx hx'=>uniqB hl.2.2.2 x hx b hb (by rw [hx',hn]));unfold Qag;simp only [er,e,Qb]
 ·have hno:∀ b∈l,b.name≠nm:=fun b hb e=>hq ⟨b,hb,e⟩
  rcases Get_is hl nm with h|⟨b,hb,hn,_⟩
  ·refine Or.inl ⟨h,?_⟩;unfold Qag;simp only [er,hr' hno,Qb]
  ·exact absurd hn (hno b hb)
structure srcK (ss:List Qp):Prop where
 bd:∀ s∈ss,s.value.shape.length≤100∧s.value.data.length≤1000∧checkR s.value.shape=0∧(s.value.data.length:Int)=prodI s.value.shape
 un:ss.Pairwise (fun a b=>b.name≠ByteArray.empty→a.name≠b.name)
theorem srcK.nil:srcK []:=⟨fun s h=>(nomatch h),List.Pairwise.nil⟩
theorem srcK.put {ss:List Qp} (h:srcK ss) {nm:ByteArray} {v:Qo} (hb:v.shape.length≤100∧v.data.length≤1000∧checkR v.shape=0∧(v.data.length:Int)=prodI v.shape) (hn:¬ (nm≠ByteArray.empty∧∃ x∈ss,x.name=nm)):srcK (ss++[⟨nm,v⟩]):=by
 refine ⟨fun s hs=>?_,List.pairwise_append.2 ⟨h.un,List.pairwise_singleton _ _,fun x hx y hy hne e=>?_⟩⟩
 ·rcases List.mem_append.1 hs with hs|hs
  ·exact h.bd s hs
  ·rw [List.mem_singleton.1 hs]; exact hb
 ·rw [List.mem_singleton.1 hy] at hne e; exact hn ⟨hne,x,hx,e⟩
theorem idxS_at {nm:ByteArray} {sh da:List Int} {a:List (ByteArray × Int)} {b c:List Qg}:∀ (s p:List Qp),(p++s).length≤1000 →
  ((nm≠ByteArray.empty∧∃ x∈s,x.name=nm)∧∃ u v w,∃ k:Nat,Qx (p++s,nm,sh,da,a,b,c,(p.length:Int))=some (.inl (u,v,w,(k:Int)))∧∃ x,(p++s)[k]? = some x∧x.name=nm) ∨
  (¬ (nm≠ByteArray.empty∧∃ x∈s,x.name=nm)∧Qx (p++s,nm,sh,da,a,b,c,(p.length:Int))=some (.inr ()))
 | [],p,h=>by
  refine Or.inr ⟨fun ⟨_,x,hx,_⟩=>(nomatch hx),?_⟩;rw [Qx]; simp only [Ze,if_false]
 | x::s,p,h=>by
  have ih:=idxS_at (nm:=nm) (sh:=sh) (da:=da) (a:=a) (b:=b) (c:=c) s (p++[x]) (by rw [← Qt]; exact h);rw [← Qt] at ih;rw [Qx]
  have e:∀ q1 q2 q9,YH (x.name,q1,q2,nm,sh,da,a,b,c,q9)=some (decide (nm≠ByteArray.empty∧x.name=nm)):=fun q1 q2 q9=>by
   unfold YH;by_cases h1:nm=ByteArray.empty
   ·simp [h1]
   ·by_cases h2:x.name=nm <;> simp [h1,h2]
  simp only [QN,if_true,Qz,Qb,e,mid_W (Sm_le h)];by_cases hq:nm≠ByteArray.empty∧x.name=nm
  ·rw [decide_eq_true hq,if_pos rfl];exact Or.inl ⟨⟨hq.1,x,jL ..,hq.2⟩,_,_,_,p.length,rfl,x,by simp,hq.2⟩
  ·rw [zP hq,if_neg zZ];rcases ih with ⟨⟨i1,y,hy,i2⟩,r⟩|⟨i1,r⟩
   ·exact Or.inl ⟨⟨i1,y,jF _ hy,i2⟩,r⟩
   ·refine Or.inr ⟨fun ⟨j1,y,hy,j2⟩=>?_,r⟩;rcases List.mem_cons.1 hy with rfl|hy
    ·exact hq ⟨j1,j2⟩
    ·exact i1 ⟨j1,y,hy,j2⟩
theorem read_at {ss:List Qp} (hs:ss.length≤1000) {nm:ByteArray} {v:Qo} (hsh:v.shape.length≤1000) (a:List (ByteArray × Int)) (b c:List Qg) :
  ∃ (ss2:List Qp) (k:Nat),Yg (nm,v.shape,v.data,a,b,c,ss)=some (ss2,v.shape,(k:Int)) ∧
   (ss2=ss∧(nm≠ByteArray.empty∧∃ x,ss[k]? = some x∧x.name=nm)∨ss2=ss++[⟨nm,v⟩]∧k=ss.length∧¬ (nm≠ByteArray.empty∧∃ x∈ss,x.name=nm)):=by
 have happ:=app_le2 (b:=64) (l:=ss) (es:=[(⟨nm,⟨v.shape,v.data⟩⟩:Qp)]) zW zV;unfold Yg Q6;rcases idxS_at (nm:=nm) (sh:=v.shape) (da:=v.data) (a:=a) (b:=b) (c:=c) ss [] hs with ⟨h,u,w,z,k,e,hx⟩|⟨h,e⟩
 ·simp only [jP,jK,jI] at e hx
  have:¬ ((k:Int) < 0):=by omega
  simp only [e,Qb,this,if_false,Clone_ok _ hsh];exact ⟨_,k,rfl,Or.inl ⟨rfl,h.1,hx⟩⟩
 ·simp only [jP,jK,jI] at e;simp only [e,Qb,happ,Clone_ok _ hsh];exact ⟨_,ss.length,rfl,Or.inr ⟨rfl,rfl,h⟩⟩
theorem rread_L1 (x:Ql):∀ (s p:List Ql) (k:Int),(p++s).length≤1000→(∀ y∈s,¬ (x.name≠ByteArray.empty∧y.name=x.name))→ZO (p++s,x,k,(p.length:Int))=some k
 | [],p,k,h,_=>by rw [ZO]; simp only [Ze,if_false]
 | y::s,p,k,h,hno=>by
  have ih:=rread_L1 x s (p++[y]) k (by rw [← Qt]; exact h) (fun z hz=>hno z (jF _ hz));rw [← Qt] at ih;have hy:=hno y (jL ..);rw [ZO];by_cases h1:x.name=ByteArray.empty
  ·simp only [QN,if_true,h1,ne_eq,z3,if_false,Qb,j5,mid_W (Sm_le h),ih]
  ·have h2:¬ y.name=x.name:=fun e=>hy ⟨h1,e⟩
   simp only [QN,if_true,h1,ne_eq,z5,Qz,Qb,h2,zQ,j5,if_false,mid_W (Sm_le h),ih]
theorem rread_has (x:Ql) (hx:x.name≠ByteArray.empty):∀ (s p:List Ql) (k:Int) (j:Nat) (y:Ql),(p++s).length≤1000→s[j]? = some y→y.name=x.name→s.Pairwise (fun a b=>b.name≠ByteArray.empty→a.name≠b.name) →
  ZO (p++s,x,k,(p.length:Int))=some ((p.length+j:Nat):Int)
 | [],p,k,j,y,h,hj,_,_=>by simp at hj
 | z::s,p,k,0,y,h,hj,hy,hp=>by
  have hz:z=y:=by simpa using hj
  subst hz;have ih:=rread_L1 x s (p++[z]) (p.length:Int) (by rw [← Qt]; exact h) (fun w hw ⟨h1,h2⟩=>(List.pairwise_cons.1 hp).1 w hw (by rw [h2]; exact hx) (by rw [hy,h2]));rw [← Qt] at ih;rw [ZO];simp only [QN,if_true,hx,ne_eq,z5,Qz,Qb,hy,decide_true,mid_W (Sm_le h),ih,zN]
 | z::s,p,k,j+1,y,h,hj,hy,hp=>by
  have ih:=fun k'=>rread_has x hx s (p++[z]) k' j y (by rw [← Qt]; exact h) (by simpa using hj) hy (List.pairwise_cons.1 hp).2
  simp only [← Qt] at ih;rw [ZO];have e:(p++[z]).length+j=p.length+(j+1):=by simp; omega
  simp only [e] at ih;simp only [QN,if_true,hx,ne_eq,z5,Qz,Qb,mid_W (Sm_le h),ih];split <;> rfl
theorem rread_new {rs:List Ql} (hs:rs.length≤1000) {nm:ByteArray} (a:Qo) (hn:∀ y∈rs,¬ (nm≠ByteArray.empty∧y.name=nm)):JJ (rs,⟨nm,a⟩)=some (⟨1,a.shape,(rs.length:Int),[],0,0,[],[]⟩,rs++[⟨nm,a⟩]):=by
 have e:=rread_L1 ⟨nm,a⟩ rs [] (rs.length:Int) hs hn;simp only [jP,jK,jI] at e;unfold JJ;simp only [e,Qb,if_true,app_le2 (b:=64) (l:=[]) (es:=rs) zW zV,jP,app_le2 (b:=64) (l:=rs) (es:=[(⟨nm,a⟩:Ql)]) zW zV]
theorem rread_old {rs:List Ql} (hs:rs.length≤1000) {nm:ByteArray} (a:Qo) (hx:nm≠ByteArray.empty) {k:Nat} {y:Ql} (hk:rs[k]? = some y) (hy:y.name=nm) (hp:rs.Pairwise (fun a b=>b.name≠ByteArray.empty→a.name≠b.name)) :
  JJ (rs,⟨nm,a⟩)=some (⟨1,a.shape,(k:Int),[],0,0,[],[]⟩,rs):=by
 have e:=rread_has ⟨nm,a⟩ hx rs [] (rs.length:Int) k y hs hk hy hp;simp only [jP,jK,jI,zO] at e;have hlt:=(List.getElem?_eq_some_iff.1 hk).1;unfold JJ;simp only [e,Qb,show ¬ (k:Int)=(rs.length:Int) by omega,if_false]
theorem bkS_pw {ss:List Qp} (h:ss.Pairwise (fun a b=>b.name≠ByteArray.empty→a.name≠b.name)):(ss.map bkS).Pairwise (fun a b=>b.name≠ByteArray.empty→a.name≠b.name):=List.Pairwise.map _ (fun _ _ h=>h) h
theorem atom_e {l:List Qg} (hl:okL l) {t:Qc} (hF:formF t) (hk:t.kids.length=0) (hv:t.nums.length≤1000) {ss:List Qp} (hs:ss.length≤1000) (hB:srcK ss) :
  ∃ ss' sh k e,YY (t.kind,t.fn,t.axis,t.name,t.nums,t.kids,smOf l 0,l,l,ss)=some (ss',(if e=0 then 1 else 0),sh,k,e) ∧
   (e=0→checkR sh=0∧(t.kind=1∨t.kind=2)∧ss'.length≤ss.length+1∧srcK ss'∧X7 (l,ss.map bkS,t)=some (⟨1,sh,k,[],0,0,[],[]⟩,ss'.map bkS,0)) ∧
   (e≠0→X7 (l,ss.map bkS,t)=some (⟨0,[],0,[],0,0,[],[]⟩,[],e)):=by
 unfold YY
 have hkind:(t.kind=1∧t.name=ByteArray.empty)∨(t.kind=2∧YT t.name=some true):=by
  rcases hF with h|h|h|h
  ·exact Or.inl ⟨h.1,h.2.2.2.1⟩
  ·exact Or.inr ⟨h.1,h.2.2.2.1⟩
  ·have:=h.2.2.2.1; omega
  ·have:=h.2.2.2.1; omega
 rcases hkind with ⟨h1,hn⟩|⟨h1,hn⟩
 ·obtain ⟨r1,r2⟩:=litA_right hv;have hsh:(litA t.nums).shape.length≤1000:=by unfold litA; split <;> simp
  obtain ⟨ss2,k,er,hk2⟩:=read_at hs (nm:=ByteArray.empty) (v:=litA t.nums) hsh (smOf l 0) l l
  have hmid:((if (t.nums.length:Int)=1 then idx t.nums 0>>=fun v4=>Qcr v4>>=fun (v5:Qo)=>some (v5.shape,v5.data) else some ((⟨[(t.nums.length:Int)],t.nums⟩:Qo).shape,(⟨[(t.nums.length:Int)],t.nums⟩:Qo).data)):Option (List Int × List Int))=some ((litA t.nums).shape,(litA t.nums).data):=by
   unfold litA;by_cases h:t.nums.length=1
   ·obtain ⟨x,hx⟩:=List.length_eq_one_iff.1 h;rw [hx]; rfl
   ·have:¬ (t.nums.length:Int)=1:=by omega
    simp only [this,h,if_false]
  unfold Qcs;simp only [h1,if_true,(copied_is _ hv).2,Qb];rw [hmid];have ec:Ja (⟨(litA t.nums).shape,(litA t.nums).data⟩:Qo)=some 0:=aCheck_is (a:=litA t.nums) r1 r2;simp only [Qb,ec,ne_eq,z3,if_false,er];rcases hk2 with ⟨_,h,_⟩|⟨rfl,rfl,hno⟩
  ·exact absurd rfl h
  refine ⟨_,(litA t.nums).shape,_,0,rfl,fun _=>⟨r1,Or.inl trivial,by simp,hB.put ⟨by show (litA t.nums).shape.length≤100; unfold litA; split <;> simp,hv,r1,r2⟩ hno,?_⟩,fun h=>absurd rfl h⟩;unfold X7;have hb:¬ ((t.nums.length:Int) > 65536):=by omega
  have hr:=rread_new (rs:=ss.map bkS) (by simpa using hs) (nm:=ByteArray.empty) (litA t.nums) (fun y _ h=>h.1 rfl);simp only [h1,hn,nq12,if_false,hb];by_cases h:t.nums.length=1
  ·have h':(t.nums.length:Int)=1:=by omega
   have e:(⟨[],t.nums⟩:Qo)=litA t.nums:=by unfold litA; rw [if_pos h]
   simp only [h',ne_eq,z3,if_false,Qb];rw [e,hr,Qb,jW,zD]; rfl
  ·have h':¬ (t.nums.length:Int)=1:=by omega
   have e:(⟨[(t.nums.length:Int)],t.nums⟩:Qo)=litA t.nums:=by unfold litA; rw [if_neg h]
   simp only [h',ne_eq,z5,if_true,Qb];rw [e,hr,Qb,jW,zD]; rfl
 ·have hz:¬ t.kind=1:=by rw [h1]; decide
  simp only [hz,if_false];rcases Get_both hl t.name with ⟨e,e'⟩|⟨b,hb,hbn,e,e'⟩
  ·simp only [e,Qb,if_true];refine ⟨ss,[],0,2,rfl,fun h=>absurd h zZ,fun _=>?_⟩;unfold X7;simp only [h1,if_true,e',Qb]
  ·have h1b:=hl.2.1 b hb;have h2b:=hl.2.2.1 b hb;obtain ⟨ss2,k,er,hk2⟩:=read_at hs (nm:=t.name) (v:=b.value) (by have:=h1b.1; omega) (smOf l 0) l l;simp only [e,Qb,jN,if_false,er];have hne:t.name≠ByteArray.empty:=by rw [← hbn]; exact (lexName_ok (by have:=h1b.2.2; omega) h2b.2.2).2
   have eA:(⟨b.value.shape,b.value.data⟩:Qo)=b.value:=rfl;rcases hk2 with ⟨rfl,_,x,hx,hxn⟩|⟨rfl,rfl,hno⟩
   ·refine ⟨_,b.value.shape,_,0,rfl,fun _=>⟨h2b.1,Or.inr h1,by omega,hB,?_⟩,fun h=>absurd rfl h⟩;have hr:=rread_old (rs:=ss2.map bkS) (by simpa using hs) (nm:=t.name) b.value hne (k:=k) (y:=bkS x) (by rw [jC,hx]; rfl) hxn (bkS_pw hB.un);unfold X7;simp only [h1,if_true,e',Qb,jN,if_false,eA,hr]
   ·refine ⟨_,b.value.shape,_,0,rfl,fun _=>⟨h2b.1,Or.inr h1,by simp,hB.put ⟨h1b.1,by have:=h1b.2.1; omega,h2b.1,h2b.2.1⟩ hno,?_⟩,fun h=>absurd rfl h⟩
    have hr:=rread_new (rs:=ss.map bkS) (by simpa using hs) (nm:=t.name) b.value (fun y hy h=>by
     obtain ⟨z,hz,rfl⟩:=List.mem_map.1 hy;exact hno ⟨h.1,z,hz,h.2⟩)
    unfold X7;simp only [h1,if_true,e',Qb,jN,if_false,eA,hr];rw [jW,zD]; rfl
theorem readS_e {l:List Qg} (hl:okL l) (a:Qc) (hv:a.nums.length≤1000):∃ v b e,XX (a.kind,a.fn,a.axis,a.name,a.nums,a.kids,smOf l 0,l,l)=some (v,b,e)∧v.length≤1000∧Qbx (l,a)=some (⟨v,b⟩,e):=by
 unfold XX Qbx;by_cases h:a.kind=1
 ·simp only [h,if_true,Clone64_ok _ hv,Qb];exact ⟨_,_,_,rfl,hv,rfl⟩
 ·simp only [h,if_false];rcases Get_both hl a.name with ⟨e,e'⟩|⟨b,hb,_,e,e'⟩
  ·simp only [e,e',Qb,if_true];exact ⟨_,_,_,rfl,by simp,rfl⟩
  ·simp only [e,e',Qb,jN,if_false];split
   ·exact ⟨_,_,_,rfl,by simp,rfl⟩
   ·exact ⟨_,_,_,rfl,by have:=(hl.2.1 b hb).2.1; omega,rfl⟩
set_option maxHeartbeats 1000000 in
theorem rone5 {l:List Qg} {t a k:Qc} {c:Qh} (h4:t.kind=4) (hk:t.kids=[a,k]) {v:List Int} {sc:Bool} (eR:Qbx (l,a)=some (⟨v,sc⟩,0)) (hv:v.length≤1000) (hf:1≤t.fn∧t.fn≤5) (hax:-1≤t.axis) (hc:checkR c.shape=0):oneOK (XG (l,t,bk c)) (meaR t c v):=by
 have hl:=(checkR_zero.1 hc).2.1;have hl':c.shape.length≤1000:=by omega
 have e0:idx t.kids 0=some a:=by rw [hk]; rfl
 unfold XG meaR;have hf':t.fn=1∨t.fn=2∨t.fn=3∨t.fn=4∨t.fn=5:=by omega
 simp only [h4,if_true,e0,Qb,eR,ne_eq,z3,if_false,bk_shape,etaK];rcases hf' with hf|hf|hf|hf|hf
 ·simp only [hf,if_true,show ((1:Int) == 1)=true from rfl,Qb,rTake_ok v c.shape hv hc];exact one_tail hl' fun _=>by simp only [winC,bk,bks]; rfl
 ·simp only [hf,nq21,if_false,if_true,show ((2:Int) == 2)=true from rfl,Qb,rDrop_ok v c.shape hv hc];exact one_tail hl' fun _=>by simp only [winC,bk,bks]; rfl
 ·have hright:(rotR v t.axis c.shape).2=0→(rr (rotR v t.axis c.shape).1).right=c.shape∧-1≤(rotR v t.axis c.shape).1.axis:=by
   have:=revR_axis hax (a:=c.shape);unfold rotR;split
   ·exact fun h=>by cases h
   ·split
    ·rename_i h; exact fun h2=>absurd h2 h
    ·exact fun _=>⟨rfl,this.1⟩
  simp only [hf,nq31,nq32,nq43,if_false,if_true,show ((3:Int) == 2)=false from rfl,j5,Qb,rRotate_ok v hax hc];generalize rotR v t.axis c.shape=q at hright;obtain ⟨r,e⟩:=q;have hra:(rr r).axis=r.axis:=rfl;simp only [hra] at hright ⊢;by_cases he:e=0
  ·subst he;obtain ⟨hr,ea⟩:=hright rfl;simp only [if_true,Qb,turnC];by_cases hx:r.axis=-1
   ·simp only [hx,show decide ((-1:Int) < 0)=true from rfl,if_true];exact ⟨fun _=>rfl,fun h=>absurd rfl h⟩
   ·have:¬ r.axis < 0:=by omega
    simp only [hx,zP this,j5,if_false,z3];rw [hr,rseen_same c hl',Qb,around_ok,Qb];exact ⟨fun _=>by rw [bk_turn]; rfl,fun h=>absurd rfl h⟩
  ·simp only [he,if_false,Qb,j5,z5,if_true];exact ⟨fun h=>absurd h he,fun _=>⟨_,rfl⟩⟩
 ·simp only [hf,nq41,nq42,nq43,if_false,if_true,show ((4:Int) == 2)=false from rfl,j5,Qb,rTrans_ok v c.shape hc];refine one_tail hl' fun he=>?_
  have hr:(transR v c.shape).1.right=c.shape:=by
   unfold transR at he ⊢;split
   ·rfl
   ·rename_i h; rw [if_neg h] at he; exact absurd he h
  show bk (transC _ c)=⟨_,_,_,_,_,_,_,[bk (seenC c (transR v c.shape).1.right)]⟩
  rw [hr,seenC_same,transC]; simp only [bk,bks]; rfl
 ·simp only [hf,nq51,nq52,nq53,nq54,if_false,if_true,show ((5:Int) == 2)=false from rfl,j5,Qb,rResh_ok v c.shape hv];refine one_tail hl' fun he=>?_
  have hr:(reshR v c.shape).1.right=c.shape:=by
   unfold reshR at he ⊢;split
   ·rfl
   ·rename_i h; rw [if_neg h] at he; exact absurd he h
  show bk (reshC _ c)=⟨_,_,_,_,_,_,_,[bk (seenC c (reshR v c.shape).1.right)]⟩
  rw [hr,seenC_same,reshC]; simp only [bk,bks]; rfl
theorem mea_e {l:List Qg} (hl:okL l) {t a k:Qc} {c:Qh} {ss:List Qp} (hk:t.kids=[a,k]) {v:List Int} {b:Bool} {e:Int} (er:XX (a.kind,a.fn,a.axis,a.name,a.nums,a.kids,smOf l 0,l,l)=some (v,b,e)) (hvl:v.length≤1000) (hf:1≤t.fn∧t.fn≤5) (hax:-1≤t.axis) (hc:checkR c.shape=0) :
  ZG (t.kind,t.fn,t.axis,t.name,t.nums,t.kids,c.kind,c.shape,c.buffer,c.starts,c.axis,c.amount,c.perm,c.kids,smOf l 0,l,l,ss) =
   some (if e=0 then ((meaR t c v).1.kind,(meaR t c v).1.shape,(meaR t c v).1.buffer,(meaR t c v).1.starts,(meaR t c v).1.axis,(meaR t c v).1.amount,(meaR t c v).1.perm,(meaR t c v).1.kids,(meaR t c v).2)
    else (0,[],0,[],0,0,[],[],e)):=by
 have hlc:=(checkR_zero.1 hc).2.1;have e0:idx t.kids 0=some a:=by rw [hk]; rfl
 unfold ZG;simp only [e0,Qb,er];by_cases h1:e=0
 ·subst h1;simp only [ne_eq,z3,if_false,etaC,if_true];have hf':t.fn=1∨t.fn=2∨t.fn=3∨t.fn=4∨t.fn=5:=by omega
  unfold meaR;rcases hf' with hf|hf|hf|hf|hf
  ·have hr:=(okR_len (okR_take (l:=v) hc)).2.1;simp only [hf,if_true,Take_ok v _ c.shape hvl hc,Qb,window_okC (takeR v c.shape).1 c zV]
  ·have hr:=(okR_len (okR_drop (l:=v) hc)).2.1;simp only [hf,nq21,if_false,if_true,Drop_ok v _ c.shape hvl hc,Qb,window_okC (dropR v c.shape).1 c zV]
  ·simp only [hf,nq31,nq32,if_false,if_true,Rotate_ok v _ hax hvl hc,Qb,turned_ok]
  ·simp only [hf,nq41,nq42,nq43,if_false,if_true,Transpose_ok v _ c.shape hvl hlc,Qb,transposed_ok]
  ·simp only [hf,nq51,nq52,nq53,nq54,if_false,Reshape_ok v _ c.shape hvl (show _≤1000 by omega),Qb,reshaped_ok]
 ·simp only [h1,ne_eq,z5,if_true,if_false]
theorem catR_dims {t:Qc} (h:formF t):-1≤t.axis:=by
 rcases h with h|h|h|h
 ·omega
 ·omega
 ·obtain ⟨_,_,_,_,h⟩:=h; unfold axF at h; omega
 ·obtain ⟨_,_,_,_,_,_,h,_⟩:=h; unfold axF at h; omega
def zeroCC:Qh:=⟨0,[],0,[],0,0,[],[]⟩
def simE (l:List Qg) (t:Qc) (ss:List Qp):Prop:=∃ (ss':List Qp) (c:Qh) (e:Int),
 QF (t.kind,t.fn,t.axis,t.name,t.nums,t.kids,smOf l 0,l,l,ss)=some (ss',c.kind,c.shape,c.buffer,c.starts,c.axis,c.amount,c.perm,c.kids,e) ∧
 (e=0→checkR c.shape=0∧ss'.length≤ss.length+szT t∧srcK ss'∧Zg (l,ss.map bkS,t)=some (bk c,ss'.map bkS,0)) ∧
 (e≠0→∃ c' l',Zg (l,ss.map bkS,t)=some (c',l',e))
set_option maxHeartbeats 2000000 in
theorem expr_e {l:List Qg} (hl:okL l):∀ (n:Nat) (t:Qc),szT t≤n→good t→numT t≤1000→∀ ss:List Qp,ss.length+szT t≤900→srcK ss→simE l t ss
 | 0,t,h,_,_,_,_,_=>by have:=szT_pos t; omega
 | n+1,t,h,hg,hN,ss,hs,hB=>by
  have hg':=good_f.1 hg;obtain ⟨hF,hK⟩:=hg';have hax:=catR_dims hF;have hsz:=szT_f t;have hnum:=numT_f t;have hz:=szT_pos t;have hrl:(ss.map bkS).length≤1000:=by simp; omega
  have hF0:=hF
  have atoms:t.kids.length=0→simE l t ss:=fun h0=>by
   obtain ⟨ss',sh,k,e,ea,ha,hb⟩:=atom_e hl hF0 h0 (show t.nums.length≤1000 by omega) (show ss.length≤1000 by omega) hB
   have h2:t.kind≤2:=by
    rcases hF0 with g|g|g|g
    ·omega
    ·omega
    ·have:=g.2.2.2.1; omega
    ·have:=g.2.2.2.1; omega
   refine ⟨ss',⟨if e=0 then 1 else 0,sh,k,[],0,0,[],[]⟩,e,?_,fun he=>?_,fun he=>⟨⟨0,[],0,[],0,0,[],[]⟩,[],?_⟩⟩
   ·rw [QF];simp only [h0,jI,if_true,ea,Qb]
   ·obtain ⟨a1,a2,a3,a4,a5⟩:=ha he;rw [if_pos he];refine ⟨a1,by omega,a4,?_⟩;rw [Zg];simp only [h2,if_true,a5,Qb,bk_f,bks]
   ·rw [Zg];simp only [h2,if_true,hb he,Qb]
  rcases hF with hF|hF|hF|hF
  ·exact atoms hF.2.2.2.2
  ·exact atoms hF.2.2.2.2.2
  ·-- one operand
   obtain ⟨h3,_,_,h4,h5⟩:=hF;obtain ⟨k,hk⟩:=kids1 h4;have hfn:t.fn=3∨t.fn=4∨t.fn=6:=by omega
   rw [hk] at hK hsz hnum;have s1:=sz1 k;have zk:=szT_pos k;obtain ⟨ss',c,e,e1,r1,r2⟩:=expr_e hl n k zV (goods1.1 hK) zV ss zV hB;have ik:idx t.kids (W ((t.kids.length:Int) - 1))=some k:=by rw [hk]; rfl
   have hn0:¬ (t.kids.length:Int)=0:=by omega
   have hk2:¬ t.kind≤2:=by omega
   by_cases he:e=0
   ·subst he;obtain ⟨q1,q2,q3,q4⟩:=r1 rfl;have ho:=rone3 (l:=l) h3 hfn hax q1
    have hprog:QF (t.kind,t.fn,t.axis,t.name,t.nums,t.kids,smOf l 0,l,l,ss)=some (ss',(monR t c).1.kind,(monR t c).1.shape,(monR t c).1.buffer,(monR t c).1.starts,(monR t c).1.axis,(monR t c).1.amount,(monR t c).1.perm,(monR t c).1.kids,(monR t c).2):=by
     rw [QF];simp only [hn0,if_false,ik,Qb,e1,ne_eq,z3,etaT,etaC,monad_okC t c q1];simp only [h3,if_true]
    have href:Zg (l,ss.map bkS,t)=(XG (l,t,bk c)>>=fun p=>some (p.1,ss'.map bkS,p.2)):=by
     rw [Zg];simp only [hk2,if_false,ik,Qb,q4,ne_eq,z3,etaT,etaR,etaK];simp only [h3,if_true,Qb]
    refine ⟨ss',(monR t c).1,(monR t c).2,hprog,fun h0=>⟨monR_right q1,by omega,q3,?_⟩,fun h0=>?_⟩
    ·rw [href,ho.1 h0,Qb]
    ·obtain ⟨x,hx⟩:=ho.2 h0;exact ⟨x,ss'.map bkS,by rw [href,hx,Qb]⟩
   ·obtain ⟨c',l',q4⟩:=r2 he;refine ⟨ss',zeroCC,e,?_,fun h0=>absurd h0 he,fun _=>⟨zeroC,[],?_⟩⟩
    ·rw [QF];simp only [hn0,if_false,ik,Qb,e1,ne_eq,he,z5,if_true];rfl
    ·rw [Zg];simp only [hk2,if_false,ik,Qb,q4,ne_eq,he,z5,if_true];rfl
  ·-- two operands
   obtain ⟨h3,_,_,h4,f1,f2,_,f3⟩:=hF;obtain ⟨a,k,hk⟩:=kids2 h4;rw [hk] at hK hsz hnum f3;have f3:t.fn=6∨a.kind=1∨a.kind=2:=f3;have s2:=sz2 a k;have zk:=szT_pos k;have za:=szT_pos a;have ga:=(goods2.1 hK).1;have numa:=numT_f a;obtain ⟨ss',c,e,e1,r1,r2⟩:=expr_e hl n k zV (goods2.1 hK).2 zV ss zV hB;have ik:idx t.kids (W ((t.kids.length:Int) - 1))=some k:=by rw [hk]; rfl
   have i0:idx t.kids 0=some a:=by rw [hk]; rfl
   have hn0:¬ (t.kids.length:Int)=0:=by omega
   have hk2:¬ t.kind≤2:=by omega
   have h34:¬ t.kind=3:=by omega
   by_cases he:e=0
   case neg =>
    obtain ⟨c',l',q4⟩:=r2 he;refine ⟨ss',zeroCC,e,?_,fun h0=>absurd h0 he,fun _=>⟨zeroC,[],?_⟩⟩
    ·rw [QF];simp only [hn0,if_false,ik,Qb,e1,ne_eq,he,z5,if_true];rfl
    ·rw [Zg];simp only [hk2,if_false,ik,Qb,q4,ne_eq,he,z5,if_true];rfl
   subst he;obtain ⟨q1,q2,q3,q4⟩:=r1 rfl;by_cases h6:t.fn=6
   ·obtain ⟨ss2,d,e2,g1,w1,w2⟩:=expr_e hl n a zV ga zV ss' zV q3
    have hrs:Zg (l,ss.map bkS,t)=(Zg (l,ss'.map bkS,a)>>=fun p=>if p.2.2≠0 then some (zeroC,[],p.2.2) else
      Ji (t.axis,p.1.shape,c.shape)>>=fun q=>if q.2≠0 then some (zeroC,[],q.2) else
      Zt (p.1,q.1.left)>>=fun v17=>Zt (bk c,q.1.right)>>=fun v18=>some (⟨7,q.1.shape,0,[],q.1.axis,0,[],[v17,v18]⟩,p.2.1,0)):=by
     rw [Zg];simp only [hk2,if_false,ik,Qb,q4,ne_eq,z3,h34,h6,etaR,i0,bk_shape,etaK];rfl
    have hps:QF (t.kind,t.fn,t.axis,t.name,t.nums,t.kids,smOf l 0,l,l,ss)=(Zi (t.kind,t.fn,t.axis,t.name,t.nums,t.kids,c.kind,c.shape,c.buffer,c.starts,c.axis,c.amount,c.perm,c.kids,smOf l 0,l,l,ss')>>=fun ((v19,v20,v21,v22,v23,v24):((List Qp) × Int × (List Int) × Int × (List Qh) × Int)) =>
      some (v19,v20,v21,(0:Int),([]:List Int),v22,(0:Int),([]:List Int),v23,v24)):=by
     rw [QF];simp only [hn0,if_false,ik,Qb,e1,ne_eq,z3,h34,Jm];simp only [h6,if_true]
    rw [Zi] at hps;simp only [i0,Qb,g1] at hps;by_cases he2:e2=0
    case neg =>
     obtain ⟨c',l',u4⟩:=w2 he2;refine ⟨ss2,zeroCC,e2,?_,fun h0=>absurd h0 he2,fun _=>⟨zeroC,[],?_⟩⟩
     ·rw [hps]; simp only [ne_eq,he2,z5,if_true,Qb]; rfl
     ·rw [hrs,u4,Qb]; simp only [ne_eq,he2,z5,if_true]
    subst he2;obtain ⟨u1,u2,u3,u4⟩:=w1 rfl;obtain ⟨dd,ld,_⟩:=checkR_zero.1 u1;obtain ⟨dc,lc,_⟩:=checkR_zero.1 q1;have hok:=okR_cat hax u1 q1;obtain ⟨l1,l2,l3⟩:=okR_len hok;simp only [ne_eq,z3,if_false,Cat_ok hax ld lc dd dc,Qb,etaC,seen_okC d (catR t.axis d.shape c.shape).1.left zV,seen_okC c _ (show (catR t.axis d.shape c.shape).1.right.length≤1000 by omega)] at hps;rw [u4,Qb] at hrs;simp only [ne_eq,z3,if_false,bk_shape,rCat_ok hax ld lc dd dc,Qb] at hrs;refine ⟨ss2,⟨7,(catR t.axis d.shape c.shape).1.shape,0,[],(catR t.axis d.shape c.shape).1.axis,0,[],[seenC d (catR t.axis d.shape c.shape).1.left,seenC c (catR t.axis d.shape c.shape).1.right]⟩,(catR t.axis d.shape c.shape).2,hps,fun h0=>⟨hok.2.2,by omega,u3,?_⟩,fun h0=>⟨zeroC,[],?_⟩⟩
    ·rw [hrs,if_neg (fun h=>h h0)];show (Zt (bk d,(catR t.axis d.shape c.shape).1.left)>>=fun v17=>Zt (bk c,(catR t.axis d.shape c.shape).1.right)>>=fun v18=>_)=_
     rw [rseen_okC d _ zV,Qb,rseen_okC c _ zV,Qb];simp only [bk,bks]; rfl
    ·rw [hrs,if_pos h0]
   ·obtain ⟨v,sb,e2,er,hvl,eR⟩:=readS_e hl a (show a.nums.length≤1000 by omega);have hm:=mea_e (ss:=ss') hl hk er hvl ⟨f1,by omega⟩ hax q1
    have hprog:QF (t.kind,t.fn,t.axis,t.name,t.nums,t.kids,smOf l 0,l,l,ss)=(ZG (t.kind,t.fn,t.axis,t.name,t.nums,t.kids,c.kind,c.shape,c.buffer,c.starts,c.axis,c.amount,c.perm,c.kids,smOf l 0,l,l,ss')>>=fun ((v25,v26,v27,v28,v29,v30,v31,v32,v33):(Int × (List Int) × Int × (List Int) × Int × Int × (List Int) × (List Qh) × Int))=>some (ss',v25,v26,v27,v28,v29,v30,v31,v32,v33)):=by
     rw [QF];simp only [hn0,if_false,ik,Qb,e1,ne_eq,z3,h34,Jm];simp only [h6,if_false]
    have href:Zg (l,ss.map bkS,t)=(XG (l,t,bk c)>>=fun p=>some (p.1,ss'.map bkS,p.2)):=by
     rw [Zg];have hb:(t.fn != 6)=true:=by simp [h6]
     simp only [hk2,if_false,ik,Qb,q4,ne_eq,z3,etaT,etaR,etaK,h34,hb,if_true]
    rw [hm,Qb] at hprog;by_cases he2:e2=0
    ·subst he2;rw [if_pos rfl] at hprog;have ho:=rone5 (l:=l) h3 hk eR hvl ⟨f1,by omega⟩ hax q1;refine ⟨ss',(meaR t c v).1,(meaR t c v).2,hprog,fun h0=>⟨meaR_right q1,by omega,q3,?_⟩,fun h0=>?_⟩
     ·rw [href,ho.1 h0,Qb]
     ·obtain ⟨x,hx⟩:=ho.2 h0;exact ⟨x,ss'.map bkS,by rw [href,hx,Qb]⟩
    ·rw [if_neg he2] at hprog;refine ⟨ss',zeroCC,e2,hprog,fun h0=>absurd h0 he2,fun _=>⟨zeroC,ss'.map bkS,?_⟩⟩
     have eO:XG (l,t,bk c)=some (zeroC,e2):=by
      unfold XG;simp only [h3,if_true,i0,Qb,eR,ne_eq,he2,z5];rfl
     rw [href,eO,Qb]
def J5 (x:((List Int) × (List Int) × (List Int) × Int × Int)):Option ((List Int)) :=
 match x with
 | (p0,v1,v202,v203,v204) =>
 if v204≥0 then
  idx p0 v204>>=fun v603 =>
  remM v203 v603>>=fun v604 =>
  QS (v202.length=v1.length)>>=fun (_:Unit) =>
  idx v202 v204>>=fun v605 =>
  setM v202 v204 v604>>=fun v607 =>
  idx p0 v204>>=fun v608 =>
  quoM v203 v608>>=fun v609 =>
  J5 (p0,v1,v607,v609,(W (v204 - 1)))
 else
 some v202
 partial_fixpoint
def QeC (x:((List Int) × Int)):Option (List Int) :=
 match x with
 | (p0,p1) =>
 makeM 8 (p0.length:Int) 0>>=fun v1 =>
 J5 (p0,v1,v1,p1,(W ((p0.length:Int) - 1)))>>=fun (v602:(List Int)) =>
 QS (v602.length=v1.length)>>=fun (_:Unit) =>
 some v602
def QaF (x:((List Int) × Qa × (List Int) × Qa × (List Int) × Int)):Option ((List Int)) :=
 match x with
 | (v3,p0,p1,v4,v205,v206) =>
 if v206 < (v3.length:Int) then
  QS (v205.length=v3.length)>>=fun (_:Unit) =>
  idx v205 v206>>=fun v606 =>
  idx v205 v206>>=fun v608 =>
  idx p0.starts v206>>=fun v609 =>
  QS (v205.length=v3.length)>>=fun (_:Unit) =>
  idx v205 v206>>=fun v610 =>
  setM v205 v206 (W (v608+v609))>>=fun v612 =>
  QaF (v3,p0,p1,v4,v612,(W (v206+1)))
 else
 some v205
 partial_fixpoint
def QaG (x:(Qa × Qa × (List Int) × (List Int) × (List Int) × Int)):Option ((List Int)) :=
 match x with
 | (v4,p0,p1,v3,v829,v830) =>
 if v830 < (v4.shape.length:Int) then
  idx p0.perm v830>>=fun v1230 =>
  idx p1 v1230>>=fun v1231 =>
  app 8 v829 ([v1231]:List Int)>>=fun v1232 =>
  QaG (v4,p0,p1,v3,v1232,(W (v830+1)))
 else
 some v829
 partial_fixpoint
def YB (x:(Qa × (List Int))):Option (Int × (List Int) × Bool) :=
 match x with
 | (p0,p1) =>
 (if p0.kind=1 then
  some true
 else
 JQ (p0.shape,p1)>>=fun (v2:Bool) =>
 some (!v2)
 )>>=fun (v1:Bool) =>
 if v1=true then
  some (0,([]:(List Int)),false)
 else
 app 8 ([]:List Int) p1>>=fun v3 =>
 idx p0.kids 0>>=fun v4 =>
 if p0.kind=2 then
  QaF (v3,p0,p1,v4,v3,0)>>=fun (v605:(List Int)) =>
  QS (v605.length=v3.length)>>=fun (_:Unit) =>
  JQ (v4.shape,v605)>>=fun (v614:Bool) =>
  if v614=false then
   some (0,([]:(List Int)),false)
  else
  QS (v605.length=v3.length)>>=fun (_:Unit) =>
  some (0,v605,true)
 else
 if p0.kind=3 then
  idx v4.shape p0.axis>>=fun v616 =>
  idx v3 p0.axis>>=fun v617 =>
  idx v3 p0.axis>>=fun v618 =>
  idx v3 p0.axis>>=fun v619 =>
  setM v3 p0.axis (W ((W (v616 - 1)) - v618))>>=fun v620 =>
  QS (v620.length=v3.length)>>=fun (_:Unit) =>
  some (0,v620,true)
 else
 if p0.kind=4 then
  idx v3 p0.axis>>=fun v622 =>
  idx v3 p0.axis>>=fun v623 =>
  idx v4.shape p0.axis>>=fun v624 =>
  remM (W (v623+p0.amount)) v624>>=fun v625 =>
  idx v3 p0.axis>>=fun v626 =>
  setM v3 p0.axis v625>>=fun v627 =>
  QS (v627.length=v3.length)>>=fun (_:Unit) =>
  some (0,v627,true)
 else
 if p0.kind=5 then
  QaG (v4,p0,p1,v3,([]:List Int),0)>>=fun (v1229:(List Int)) =>
  some (0,v1229,true)
 else
 if p0.kind=6 then
  Xv v4.shape>>=fun (v1233:Int) =>
  if v1233=0 then
   some (0,([]:(List Int)),false)
  else
  Xg (p0.shape,p1)>>=fun (v1234:Int) =>
  remM v1234 v1233>>=fun v1235 =>
  QeC (v4.shape,v1235)>>=fun (v1236:(List Int)) =>
  some (0,v1236,true)
 else
 if p0.kind=7 then
  idx v3 p0.axis>>=fun v1237 =>
  idx v3 p0.axis>>=fun v1238 =>
  idx v4.shape p0.axis>>=fun v1239 =>
  if v1238≥v1239 then
   idx v3 p0.axis>>=fun v1240 =>
   idx v3 p0.axis>>=fun v1241 =>
   idx v4.shape p0.axis>>=fun v1242 =>
   idx v3 p0.axis>>=fun v1243 =>
   setM v3 p0.axis (W (v1241 - v1242))>>=fun v1244 =>
   QS (v1244.length=v3.length)>>=fun (_:Unit) =>
   some (1,v1244,true)
  else
  some (0,v3,true)
 else
 some (0,v3,true)
structure QdN where
 fill:Bool
 buffer:Int
 offset:Int
def Qbi (x:(Qa × (List Int))):Option QdN :=
 match x with
 | (p0,p1) =>
 if p0.kind=1 then
  Xg (p0.shape,p1)>>=fun (v1:Int) =>
  some ⟨false,p0.buffer,v1⟩
 else
 YB (p0,p1)>>=fun ((v2,v3,v4):(Int × (List Int) × Bool)) =>
 if v4=false then
  some ⟨true,0,0⟩
 else
 idx p0.kids v2>>=fun v5 =>
 Qbi (v5,v3)
 partial_fixpoint
def Qgw (x:(QA × QdN)):Option Int :=
 match x with
 | (p0,p1) =>
 if p1.fill=true then
  some 0
 else
 idx p0.sources p1.buffer>>=fun v1 =>
 idx v1.value.data p1.offset>>=fun v2 =>
 some v2
def vld:List Int→List Int→Bool
 | [],[]=>true
 | n::s,x::i=>(decide (0≤x) && decide (x < n)) && vld s i
 | _,_=>false
theorem z0l:∀ {s i:List Int},vld s i=true→s.length=i.length
 | [],[],_=>rfl
 | n::s,x::i,h=>by
  simp only [vld,jD] at h;simp [z0l h.2]
 | [],_::_,h=>by cases h
 | _::_,[],h=>by cases h
theorem vld_ne:∀ {s i:List Int},s.length≠i.length→vld s i=false
 | [],[],h=>absurd rfl h
 | n::s,x::i,h=>by rw [vld,vld_ne (fun e=>h (by simp [e])),Bool.and_false]
 | [],_::_,_=>rfl
 | _::_,[],_=>rfl
theorem z0m:∀ {s i:List Int},vld s i=true→∀ k,k < s.length→0≤i.getD k 0∧i.getD k 0 < s.getD k 0
 | [],_,_,k,hk=>by cases hk
 | n::s,x::i,h,k,hk=>by
  simp only [vld,jD,z4] at h;cases k with
  | zero=>simpa using h.1
  | succ k=>simpa using z0m h.2 k (by simpa using hk)
 | _::_,[],h,_,_=>by cases h
theorem vld_of:∀ {s i:List Int},s.length=i.length→(∀ k,k < s.length→0≤i.getD k 0∧i.getD k 0 < s.getD k 0)→vld s i=true
 | [],[],_,_=>rfl
 | n::s,x::i,h,hg=>by
  simp only [vld,jD,z4];exact ⟨by simpa using hg 0 zX,vld_of (by simpa using h) fun k hk=>by simpa using hg (k+1) (by simpa using hk)⟩
 | [],_::_,h,_=>by cases h
 | _::_,[],h,_=>by cases h
theorem gValid_L1:∀ (s t p q:List Int),s.length=t.length→p.length=q.length→Sm (p++s).length→Yw (p++s,q++t,(p.length:Int))=some (if vld t s=true then .inr () else .inl ())
 | [],[],p,q,_,_,hs=>by
  rw [Yw]; simp only [Ze,if_false,vld,if_true]
 | x::s,n::t,p,q,h1,h2,hs=>by
  rw [Yw];have ih:=gValid_L1 s t (p++[x]) (q++[n]) (by simpa using h1) (by simp [h2]) (by rw [← Qt]; exact hs);rw [← Qt,← Qt] at ih;simp only [QN,if_true,Qz,Qb,mid_W hs,ih,vld];rw [h2,Qz];by_cases ha:x < 0
  ·simp [ha,Qb,show ¬ 0≤x by omega]
  ·by_cases hb:x≥n
   ·simp [ha,hb,Qb,show ¬ x < n by omega]
   ·simp [ha,hb,Qb,show 0≤x by omega,show x < n by omega]
 | [],_::_,_,_,h,_,_=>by cases h
 | _::_,[],_,_,h,_,_=>by cases h
theorem z0f (s i:List Int) (hs:Sm i.length):Jc (s,i)=some (vld s i):=by
 simp only [Jc];by_cases h:i.length=s.length
 ·have e:Yw (i,s,0)=_:=gValid_L1 i s [] [] h rfl hs;rw [if_neg zV,e];cases vld s i <;> rfl
 ·rw [if_pos zV,vld_ne (fun e=>h e.symm)]
theorem rValid_L1:∀ (s t p q:List Int),s.length=t.length→p.length=q.length→Sm (p++s).length→YA (p++s,q++t,(p.length:Int))=some (if vld s t=true then .inr () else .inl ())
 | [],[],p,q,_,_,hs=>by
  rw [YA]; simp only [Ze,if_false,vld,if_true]
 | n::s,x::t,p,q,h1,h2,hs=>by
  rw [YA];have ih:=rValid_L1 s t (p++[n]) (q++[x]) (by simpa using h1) (by simp [h2]) (by rw [← Qt]; exact hs);rw [← Qt,← Qt] at ih;simp only [QN,if_true,Qz,Qb,mid_W hs,ih,vld];rw [h2,Qz];by_cases ha:x < 0
  ·simp [ha,Qb,show ¬ 0≤x by omega]
  ·by_cases hb:x≥n
   ·simp [ha,hb,Qb,show ¬ x < n by omega]
   ·simp [ha,hb,Qb,show 0≤x by omega,show x < n by omega]
 | [],_::_,_,_,h,_,_=>by cases h
 | _::_,[],_,_,h,_,_=>by cases h
theorem z0g (s i:List Int) (hs:Sm s.length):JQ (s,i)=some (vld s i):=by
 simp only [JQ];by_cases h:s.length=i.length
 ·have e:YA (s,i,0)=_:=rValid_L1 s i [] [] h rfl hs;rw [if_neg zV,e];cases vld s i <;> rfl
 ·rw [if_pos zV,vld_ne h]
theorem z0i {l:List Int} {j:Nat} {v:Int} (h:j < l.length):setM l (j:Int) v=some (l.set j v):=by simp [setM,h]
theorem z0b {p:Prop} [Decidable p] (h:p):QS p=some ():=if_pos h
theorem mid_set {α:Type} {p s:List α} {x y:α}:(p++x::s).set p.length y=(p++[y])++s:=by simp
def addW (l st:List Int):List Int:=List.zipWith (fun x n=>W (x+n)) l st
theorem addW_len {l st:List Int} (h:l.length=st.length):(addW l st).length=l.length:=by simp [addW,h]
theorem rWin_L1 (v3:List Int) (p1:List Int) (v4:Qa) (kd:Int) (sh:List Int) (bu:Int) (ax am:Int) (pe:List Int) (ks:List Qa):∀ (s t p q:List Int),s.length=t.length→p.length=q.length→(q++t).length=v3.length→Sm (p++s).length →
  QaF (v3,⟨kd,sh,bu,p++s,ax,am,pe,ks⟩,p1,v4,q++t,(p.length:Int))=some (q++addW t s)
 | [],[],p,q,_,h2,h3,hs=>by
  rw [QaF]
  have:¬ ((p.length:Int) < (v3.length:Int)):=by simp at h3; omega
  simp only [this,if_false]; simp [addW]
 | n::s,x::t,p,q,h1,h2,h3,hs=>by
  rw [QaF];have ih:=rWin_L1 v3 p1 v4 kd sh bu ax am pe ks s t (p++[n]) (q++[W (x+n)]) (by simpa using h1) (by simp [h2]) (by simpa using h3) (by rw [← Qt]; exact hs);rw [← Qt] at ih;have hl:((p.length:Int) < (v3.length:Int)):=by simp at h3; omega
  have hi:idx (q++x::t) (p.length:Int)=some x:=by rw [h2]; exact Qz
  have hset:setM (q++x::t) (p.length:Int) (W (x+n))=some ((q++[W (x+n)])++t):=by rw [h2,z0i zX,mid_set]
  simp only [hl,if_true,z0b h3,Qb,hi,Qz,hset,mid_W hs,ih];simp [addW]
 | [],_::_,_,_,h,_,_,_=>by cases h
 | _::_,[],_,_,h,_,_,_=>by cases h
theorem gWin_L1 (q8:List Int) (q0:Int) (q1:List Int) (q2 q4 q5:Int) (q6:List Int) (q7:List Qh):∀ (s t p q:List Int),s.length=t.length→p.length=q.length→(q++t).length=q8.length→Sm (p++s).length →
  Zf (p++s,q8,q0,q1,q2,q4,q5,q6,q7,q++t,(p.length:Int))=some (q++addW t s)
 | [],[],p,q,_,h2,h3,hs=>by
  rw [Zf]; simp only [Ze,if_false]; simp [addW]
 | n::s,x::t,p,q,h1,h2,h3,hs=>by
  rw [Zf];have ih:=gWin_L1 q8 q0 q1 q2 q4 q5 q6 q7 s t (p++[n]) (q++[W (x+n)]) (by simpa using h1) (by simp [h2]) (by simpa using h3) (by rw [← Qt]; exact hs);rw [← Qt] at ih;have hi:idx (q++x::t) (p.length:Int)=some x:=by rw [h2]; exact Qz
  have hset:setM (q++x::t) (p.length:Int) (W (x+n))=some ((q++[W (x+n)])++t):=by rw [h2,z0i zX,mid_set]
  simp only [QN,if_true,z0b h3,Qb,hi,Qz,hset,mid_W hs,ih];simp [addW]
 | [],_::_,_,_,h,_,_,_=>by cases h
 | _::_,[],_,_,h,_,_,_=>by cases h
def zipP (l s:List Int) (j r:Int):Prop:=∀ a∈l.zip s,a.1=j→r≤a.2
theorem tr_L1 (v1 p0:Qa):∀ (s t p q:List Int),v1.shape=p++s→p0.perm=q++t→s.length=t.length→p.length=q.length→Sm (p++s).length →
  ∃ o,Zr (v1,p0,(p.length:Int))=some o∧(o=.inr ()→∀ x∈t,0≤x∧x < (p0.shape.length:Int))
 | [],[],p,q,e1,e2,_,h2,hs=>by
  rw [Zr]; simp only [e1,Ze,if_false];exact ⟨_,rfl,fun _ x h=>by cases h⟩
 | n::s,x::t,p,q,e1,e2,h1,h2,hs=>by
  rw [Zr];obtain ⟨o,e,ho⟩:=tr_L1 v1 p0 s t (p++[n]) (q++[x]) (by rw [e1]; simp) (by rw [e2]; simp) (by simpa using h1) (by simp [h2]) (by rw [← Qt]; exact hs);have hi:idx (q++x::t) (p.length:Int)=some x:=by rw [h2]; exact Qz
  simp only [e1,e2,QN,if_true,hi,Qb,mid_W hs,e];by_cases ha:x < 0
  ·simp only [ha,if_true,Qb]; exact ⟨_,rfl,fun h=>by cases h⟩
  ·by_cases hb:x≥(p0.shape.length:Int)
   ·simp only [ha,hb,if_false,decide_true,Qb,if_true]; exact ⟨_,rfl,fun h=>by cases h⟩
   ·simp only [ha,hb,if_false,zQ,Qb,j5];refine ⟨o,rfl,fun h y hy=>?_⟩;rcases List.mem_cons.1 hy with rfl|hy
    ·omega
    ·exact ho h y hy
 | [],_::_,_,_,_,_,h,_,_=>by cases h
 | _::_,[],_,_,_,_,h,_,_=>by cases h
theorem tr_L3 (v1 p0:Qa) (j:Int):∀ (s t p q:List Int) (v:Int),v1.shape=p++s→p0.perm=q++t→s.length=t.length→p.length=q.length→Sm (p++s).length →
  ∃ r,Za (v1,p0,j,v,(p.length:Int))=some r∧((∀ n∈s,0≤n)→(0≤v→r≤v)∧zipP t s j r)
 | [],[],p,q,v,e1,e2,_,h2,hs=>by
  rw [Za]; simp only [e1,Ze,if_false];exact ⟨_,rfl,fun _=>⟨fun _=>Int.le_refl _,fun a ha=>by cases ha⟩⟩
 | n::s,x::t,p,q,v,e1,e2,h1,h2,hs=>by
  rw [Za];have ih:=fun v=>tr_L3 v1 p0 j s t (p++[n]) (q++[x]) v (by rw [e1]; simp) (by rw [e2]; simp) (by simpa using h1) (by simp [h2]) (by rw [← Qt]; exact hs)
  have hi:idx (q++x::t) (p.length:Int)=some x:=by rw [h2]; exact Qz
  simp only [e1,e2,QN,if_true,hi,Qb,Qz,mid_W hs]
  have new:∃ r,Za (v1,p0,j,n,((p++[n]).length:Int))=some r∧((∀ m∈n::s,0≤m)→r≤n∧zipP (x::t) (n::s) j r):=by
   obtain ⟨r,e,hr⟩:=ih n;refine ⟨r,e,fun h=>?_⟩;obtain ⟨g1,g2⟩:=hr (fun m hm=>h m (jF _ hm));have g3:=g1 (h n (jL ..))
   exact ⟨g3,fun a ha=>by
    rcases List.mem_cons.1 ha with rfl|ha
    ·exact fun _=>g3
    ·exact g2 a ha⟩
  by_cases hx:x=j
  ·simp only [hx,if_true];by_cases hv:v < 0
   ·simp only [hv,if_true,Qb];obtain ⟨r,e,hr⟩:=new;exact ⟨r,e,fun h=>⟨fun h'=>by omega,by have:=(hr h).2; rwa [hx] at this⟩⟩
   ·by_cases hn:n < v
    ·simp only [hv,hn,if_false,Qb,decide_true,if_true];obtain ⟨r,e,hr⟩:=new;exact ⟨r,e,fun h=>⟨fun h'=>by have:=(hr h).1; omega,by have:=(hr h).2; rwa [hx] at this⟩⟩
    ·simp only [hv,hn,if_false,Qb,zQ,j5];obtain ⟨r,e,hr⟩:=ih v;refine ⟨r,e,fun h=>?_⟩;obtain ⟨g1,g2⟩:=hr (fun m hm=>h m (jF _ hm));have g3:=g1 zV
     exact ⟨fun _=>g3,fun a ha=>by
      rcases List.mem_cons.1 ha with rfl|ha
      ·exact fun _=>by show r≤n; omega
      ·exact g2 a ha⟩
  ·simp only [hx,if_false,Qb,j5];obtain ⟨r,e,hr⟩:=ih v;refine ⟨r,e,fun h=>?_⟩;obtain ⟨g1,g2⟩:=hr (fun m hm=>h m (jF _ hm))
   exact ⟨g1,fun a ha=>by
    rcases List.mem_cons.1 ha with rfl|ha
    ·exact fun h'=>absurd h' hx
    ·exact g2 a ha⟩
 | [],_::_,_,_,_,_,_,h,_,_=>by cases h
 | _::_,[],_,_,_,_,_,h,_,_=>by cases h
theorem tr_L2 (v1 p0:Qa) (hl:v1.shape.length=p0.perm.length) (hv:Sm v1.shape.length):∀ (s p:List Int),p0.shape=p++s→Sm (p++s).length →
  ∃ o,Zs (p0,v1,(p.length:Int))=some o∧(o=.inr ()→(∀ n∈v1.shape,0≤n)→∀ k,k < s.length→zipP p0.perm v1.shape ((p.length+k:Nat):Int) (s.getD k 0))
 | [],p,e1,hs=>by
  rw [Zs]; simp only [e1,Ze,if_false];exact ⟨_,rfl,fun _ _ k hk=>by cases hk⟩
 | n::s,p,e1,hs=>by
  rw [Zs];obtain ⟨r,er,hr⟩:=tr_L3 v1 p0 (p.length:Int) v1.shape p0.perm [] [] (-1) rfl rfl hl rfl hv;obtain ⟨o,e,ho⟩:=tr_L2 v1 p0 hl hv s (p++[n]) (by rw [e1]; simp) (by rw [← Qt]; exact hs);have er':Za (v1,p0,(p.length:Int),-1,0)=some r:=er;simp only [e1,QN,if_true,er',Qb,Qz,mid_W hs,e];by_cases hn:r=n
  ·rw [if_neg (fun h=>h hn)];refine ⟨o,rfl,fun h h0 k hk=>?_⟩;cases k with
   | zero=>rw [← hn]; exact (hr h0).2
   | succ k =>
    have:=ho h h0 k (by simpa using hk);simp only [jU,z8,jK] at this;rw [show p.length+(k+1)=p.length+(0+1)+k by omega];exact this
  ·rw [if_pos hn]; exact ⟨_,rfl,fun h=>by cases h⟩
theorem zip_get:∀ {l s:List Int} {k:Nat},k < l.length→l.length=s.length→(l.getD k 0,s.getD k 0)∈l.zip s
 | x::l,n::s,0,_,_=>by simp
 | x::l,n::s,k+1,h,h2=>by
  simp only [List.getD_cons_succ,List.zip_cons_cons];exact jF _ (zip_get (by simpa using h) (by simpa using h2))
 | [],_,_,h,_=>by cases h
 | _::_,[],_,_,h=>by cases h
theorem tr_ok (p0 v1:Qa) (hk:idx p0.kids 0=some v1) (h1:Sm v1.shape.length) (h2:Sm p0.shape.length):∃ b,Jq p0=some b∧(b=true→p0.perm.length=v1.shape.length ∧
  ((∀ n∈v1.shape,0≤n)→∀ k,k < v1.shape.length→0≤p0.perm.getD k 0∧p0.perm.getD k 0 < (p0.shape.length:Int)∧p0.shape.getD (p0.perm.getD k 0).toNat 0≤v1.shape.getD k 0)):=by
 simp only [Jq,hk,Qb];by_cases hl:p0.perm.length=v1.shape.length
 ·rw [if_neg zV];obtain ⟨o,e,ho⟩:=tr_L1 v1 p0 v1.shape p0.perm [] [] rfl rfl hl.symm rfl h1;obtain ⟨o2,e2,ho2⟩:=tr_L2 v1 p0 hl.symm h1 p0.shape [] rfl h2;have e':Zr (v1,p0,0)=some o:=e;have e2':Zs (p0,v1,0)=some o2:=e2;rw [e',Qb];cases o with
  | inl _=>exact ⟨_,rfl,fun h=>by cases h⟩
  | inr _ =>
   simp only [e2',Qb];cases o2 with
   | inl _=>exact ⟨_,rfl,fun h=>by cases h⟩
   | inr _ =>
    refine ⟨_,rfl,fun _=>⟨hl,fun h0 k hk=>?_⟩⟩
    have hm:p0.perm.getD k 0∈p0.perm:=by
     rw [jA,jB zV];exact z0 _
    have g:=ho rfl _ hm;refine ⟨g.1,g.2,?_⟩;have z:=ho2 rfl h0 (p0.perm.getD k 0).toNat zV;exact z _ (zip_get zV hl) (by simp only [jK,zO]; omega)
 ·rw [if_pos zV]; exact ⟨_,rfl,fun h=>by cases h⟩
def pick (l p:List Int):List Int:=p.map fun j=>l.getD j.toNat 0
theorem z0e {l:List Int} {j:Int} (h:0≤j) (h2:j < (l.length:Int)):idx l j=some (l.getD j.toNat 0):=by
 have:j.toNat < l.length:=by omega
 simp [idx,h,this]
theorem rTr_L2 (v4 p0:Qa) (p1 v3:List Int) (hp:∀ x∈p0.perm,0≤x∧x < (p1.length:Int)):∀ (s t p q:List Int) (a:List Int),v4.shape=p++s→p0.perm=q++t→s.length=t.length→p.length=q.length→(p++s).length≤1000→a.length=p.length →
  QaG (v4,p0,p1,v3,a,(p.length:Int))=some (a++pick p1 t)
 | [],[],p,q,a,e1,e2,_,h2,hs,ha=>by
  rw [QaG]; simp only [e1,Ze,if_false]; simp [pick]
 | n::s,x::t,p,q,a,e1,e2,h1,h2,hs,ha=>by
  rw [QaG];have hx:=hp x (by rw [e2]; simp);have ih:=rTr_L2 v4 p0 p1 v3 hp s t (p++[n]) (q++[x]) (a++[p1.getD x.toNat 0]) (by rw [e1]; simp) (by rw [e2]; simp) (by simpa using h1) (by simp [h2]) (by rw [← Qt]; exact hs) (by simp [ha]);have hi:idx (q++x::t) (p.length:Int)=some x:=by rw [h2]; exact Qz
  have hap:app 8 a [p1.getD x.toNat 0]=some (a++[p1.getD x.toNat 0]):=app_ok (by
   have:1002 * 8≤room:=by decide +kernel
   simp at hs ⊢; omega)
  simp only [e1,e2,QN,if_true,hi,Qb,mid_W (Sm_of hs),z0e hx.1 hx.2,hap,ih];simp [pick]
 | [],_::_,_,_,_,_,_,h,_,_,_=>by cases h
 | _::_,[],_,_,_,_,_,h,_,_,_=>by cases h
theorem gTr_L1 (q8:List Int) (q0:Int) (q1:List Int) (q2:Int) (q3:List Int) (q4 q5:Int) (q7:List Qh):∀ (t q a:List Int),(∀ x∈t,0≤x∧x < (q8.length:Int))→(q++t).length≤1000→a.length=q.length →
  QZ (q++t,q8,q0,q1,q2,q3,q4,q5,q7,a,(q.length:Int))=some (a++pick q8 t)
 | [],q,a,_,hs,ha=>by
  rw [QZ]; simp only [Ze,if_false]; simp [pick]
 | x::t,q,a,hp,hs,ha=>by
  rw [QZ];have hx:=hp x (jL ..);have ih:=gTr_L1 q8 q0 q1 q2 q3 q4 q5 q7 t (q++[x]) (a++[q8.getD x.toNat 0]) (fun y hy=>hp y (jF _ hy)) (by rw [← Qt]; exact hs) (by simp [ha]);rw [← Qt] at ih
  have hap:app 8 a [q8.getD x.toNat 0]=some (a++[q8.getD x.toNat 0]):=app_ok (by
   have:1002 * 8≤room:=by decide +kernel
   simp at hs ⊢; omega)
  simp only [QN,if_true,Qz,Qb,mid_W (Sm_of hs),z0e hx.1 hx.2,hap,ih];simp [pick]
def dotp:List Int→List Int→Int
 | _::s,x::i=>x * prodI s+dotp s i
 | _,_=>0
def strd:List Int→List Int
 | []=>[]
 | _::s=>prodI s::strd s
def dig:List Int→Int→List Int
 | [],_=>[]
 | _::s,o=>o / prodI s::dig s (o % prodI s)
theorem strd_len:∀ s:List Int,(strd s).length=s.length
 | []=>rfl
 | _::s=>by simp [strd,strd_len s]
theorem dig_len:∀ (s:List Int) (o:Int),(dig s o).length=s.length
 | [],_=>rfl
 | _::s,o=>by simp [dig,dig_len s]
theorem vld_pos:∀ {s i:List Int},vld s i=true→∀ n∈s,1≤n
 | n::s,x::i,h,m,hm=>by
  simp only [vld,jD,z4] at h;rcases List.mem_cons.1 hm with rfl|hm
  ·omega
  ·exact vld_pos h.2 m hm
 | [],_,_,m,hm=>by cases hm
 | _::_,[],h,_,_=>by cases h
theorem z0d:∀ {s i:List Int},vld s i=true→0≤dotp s i∧dotp s i < prodI s
 | [],[],_=>by simp [dotp,prodI]
 | n::s,x::i,h=>by
  simp only [vld,jD,z4] at h;obtain ⟨h1,h2⟩:=z0d h.2;have hp:=prodI_pos (vld_pos h.2);rw [dotp,prodI_cons];have a1:0≤x * prodI s:=Int.mul_nonneg h.1.1 zV;have a2:(x+1) * prodI s≤n * prodI s:=Int.mul_le_mul_of_nonneg_right zV zV;rw [Int.add_mul,Int.one_mul] at a2;omega
 | [],_::_,h=>by cases h
 | _::_,[],h=>by cases h
theorem prod_le {a b:List Int} (ha:∀ n∈a,1≤n) (hb:∀ n∈b,1≤n):prodI b≤prodI (a++b):=by
 rw [prodI_append];have h1:=prodI_pos ha;have h2:=prodI_pos hb;have:=Int.mul_le_mul_of_nonneg_right h1 (show 0≤prodI b by omega);omega
theorem rOff_L1:∀ (s t p q:List Int) (a:Int),vld s t=true→p.length=q.length→Sm (p++s).length→0≤a→(a+1) * prodI s≤65536 →
  Yb (p++s,q++t,a,(p.length:Int))=some (a * prodI s+dotp s t)
 | [],[],p,q,a,_,h2,hs,h3,h4=>by
  rw [Yb]; simp only [Ze,if_false]; simp [dotp,prodI]
 | n::s,x::t,p,q,a,hv,h2,hs,h3,h4=>by
  rw [Yb];simp only [vld,jD,z4] at hv;have hp:=prodI_pos (vld_pos hv.2);rw [prodI_cons] at h4;have e1:(a+1) * (n * prodI s)=(a * n+n) * prodI s:=by rw [← Int.mul_assoc,Int.add_mul,Int.one_mul]
  have b1:(a * n+x+1) * prodI s≤(a * n+n) * prodI s:=Int.mul_le_mul_of_nonneg_right zV zV;have b0:0≤a * n:=Int.mul_nonneg h3 zV;have b2:(a * n+n) * 1≤(a * n+n) * prodI s:=Int.mul_le_mul_of_nonneg_left zV zV;have w1:W (a * n)=a * n:=W_ok zV zV;have w2:W (a * n+x)=a * n+x:=W_ok zV zV;have ih:=rOff_L1 s t (p++[n]) (q++[x]) (a * n+x) hv.2 (by simp [h2]) (by rw [← Qt]; exact hs) zV zV;rw [← Qt,← Qt] at ih;have hi:idx (q++x::t) (p.length:Int)=some x:=by rw [h2]; exact Qz
  simp only [QN,if_true,Qz,hi,Qb,mid_W hs,w1,w2,ih,dotp,prodI_cons];rw [Int.add_mul,Int.mul_assoc,Int.add_assoc]
 | [],_::_,_,_,_,h,_,_,_,_=>by cases h
 | _::_,[],_,_,_,h,_,_,_,_=>by cases h
theorem rOffset_ok {s i:List Int} (h:vld s i=true) (hp:prodI s≤65536) (hs:Sm s.length):Xg (s,i)=some (dotp s i):=by
 have e:Yb (s,i,0,0)=some (0 * prodI s+dotp s i):=rOff_L1 s i [] [] 0 h rfl hs zV (by simpa using hp);simp only [Xg,z0g s i hs,h,Qb,jN,if_false,e,Int.zero_mul,Int.zero_add]
theorem gDot_L1:∀ (s t p q:List Int) (a:Int),vld s t=true→p.length=q.length→Sm (p++s).length→0≤a→a+dotp s t≤65536→prodI s≤65536 →
  YO (q++t,p++strd s,a,(p.length:Int))=some (a+dotp s t)
 | [],[],p,q,a,_,h2,hs,h3,h4,_=>by
  rw [YO]
  have:¬ ((p.length:Int) < (if ((q++[]).length:Int) < ((p++strd []).length:Int) then ((q++[]).length:Int) else ((p++strd []).length:Int))):=by
   simp [strd,h2]
  simp only [this,if_false]; simp [dotp]
 | n::s,x::t,p,q,a,hv,h2,hs,h3,h4,h5=>by
  rw [YO];simp only [vld,jD,z4] at hv;have hl:=z0l hv.2;have hp:=prodI_pos (vld_pos hv.2);obtain ⟨r1,r2⟩:=z0d hv.2;rw [dotp] at h4;rw [prodI_cons] at h5;have c1:0≤x * prodI s:=Int.mul_nonneg hv.1.1 zV;have c2:1 * prodI s≤n * prodI s:=Int.mul_le_mul_of_nonneg_right zV zV
  have this:((p.length:Int) < (if ((q++x::t).length:Int) < ((p++strd (n::s)).length:Int) then ((q++x::t).length:Int) else ((p++strd (n::s)).length:Int))):=by
   simp only [jU,z8,strd_len,h2]; split <;> omega
  have hi:idx (q++x::t) (p.length:Int)=some x:=by rw [h2]; exact Qz
  have hi2:idx (p++strd (n::s)) (p.length:Int)=some (prodI s):=Qz;have w1:W (prodI s * x)=x * prodI s:=by rw [Int.mul_comm,W_ok zV zV]
  have w2:W (a+x * prodI s)=a+x * prodI s:=W_ok zV zV;have ih:=gDot_L1 s t (p++[prodI s]) (q++[x]) (a+x * prodI s) hv.2 (by simp [h2]) (by have:=hs; simp at this ⊢; unfold Sm at *; omega) zV zV zV;rw [← Qt,← Qt] at ih
  have w3:W ((p.length:Int)+1)=((p++[prodI s]).length:Int):=by
   unfold Sm at hs; simp at hs;rw [W_ok zV zV]; simp
  simp only [this,if_true,hi,hi2,Qb,w1,w2,w3];have ih':YO (q++x::t,p++strd (n::s),a+x * prodI s,((p++[prodI s]).length:Int))=_:=ih;rw [ih',dotp,Int.add_assoc]
 | [],_::_,_,_,_,h,_,_,_,_,_=>by cases h
 | _::_,[],_,_,_,h,_,_,_,_,_=>by cases h
theorem str_L1 (s v2:List Int) (hv2:v2.length=s.length) (hs:s.length≤1000) (hpos:∀ n∈s,1≤n) (hP:prodI s≤65536):∀ (m:Nat) (a b:List Int),a.length=m→s=a++b →
  Yo (s,v2,List.replicate a.length 0++strd b,prodI b,(b.length:Int))=some (strd s)
 | 0,a,b,ha,e=>by
  obtain rfl:=List.eq_nil_of_length_eq_zero ha;rw [Yo]
  have:¬ ((b.length:Int) < (s.length:Int)):=by rw [e]; simp
  simp only [this,if_false]; rw [e]; rfl
 | m+1,a,b,ha,e=>by
  rcases List.eq_nil_or_concat a with rfl|⟨a',n,rfl⟩
  ·simp at ha
  ·simp only [List.concat_eq_append] at ha e ⊢;have ha':a'.length=m:=by simpa using ha
   rw [Yo];have hl:s.length=a'.length+1+b.length:=by rw [e]; simp; omega
   have ht:((b.length:Int) < (s.length:Int)):=by omega
   have w:W (W ((s.length:Int) - 1) - (b.length:Int))=(a'.length:Int):=by
    rw [show W ((s.length:Int) - 1)=(s.length:Int) - 1 from W_ok zV zV,W_ok zV zV]; omega
   have e':s=a'++(n::b):=by rw [e]; simp
   have hg:(List.replicate (a'++[n]).length (0:Int)++strd b).length=v2.length:=by simp [strd_len,hv2,hl]
   have er:List.replicate (a'++[n]).length (0:Int)++strd b=List.replicate a'.length 0++0::strd b:=by
    rw [jU,List.length_singleton,List.replicate_succ',List.append_assoc]; rfl
   have hj:a'.length < (List.replicate (a'++[n]).length (0:Int)++strd b).length:=by simp; omega
   have hset:(List.replicate (a'++[n]).length (0:Int)++strd b).set a'.length (prodI b)=List.replicate a'.length 0++strd (n::b):=by
    rw [er];have:=mid_set (p:=List.replicate a'.length (0:Int)) (s:=strd b) (x:=0) (y:=prodI b);simp only [zB] at this;rw [this,← Qt]; rfl
   have hidx:idx s (a'.length:Int)=some n:=by rw [e']; exact Qz
   have hposb:∀ k∈n::b,1≤k:=fun k hk=>hpos k (by rw [e']; exact zS _ hk)
   have hposa:∀ k∈a',1≤k:=fun k hk=>hpos k (by rw [e']; exact zR _ hk)
   have hle:prodI (n::b)≤65536:=by
    have:=prod_le hposa hposb;rw [← e'] at this; omega
   have hge:=prodI_pos hposb;have w2:W (prodI b * n)=prodI (n::b):=by rw [prodI_cons,Int.mul_comm,W_ok (by rw [← prodI_cons]; omega) (by rw [← prodI_cons]; omega)]
   have w3:W ((b.length:Int)+1)=((n::b).length:Int):=by rw [W_ok zV zV]; simp
   have ih:=str_L1 s v2 hv2 hs hpos hP m a' (n::b) ha' e';simp only [ht,if_true,w,z0b hg,Qb,idx_ok hj,z0i hj,hset,hidx,w2,w3];exact ih
theorem z0a {s:List Int} (h:checkR s=0):s.length≤16∧prodI s≤65536∧∀ n∈s,0≤n∧n≤65536:=by
 unfold checkR at h;by_cases hn:negB s=true
 ·rw [if_pos hn] at h; cases h
 ·rw [if_neg hn] at h;by_cases h2:s.length > 16∨bigB s=true∨prodI s > 65536
  ·rw [if_pos h2] at h; cases h
  ·have hn':negB s=false:=by simpa using hn
   have hb:bigB s=false:=by
    cases hb:bigB s with
    | false=>rfl
    | true=>exact absurd (Or.inr (Or.inl hb)) h2
   refine ⟨by omega,by omega,fun n hm=>⟨neg_all hn' n hm,big_all hb n hm⟩⟩
theorem gCells_ok (s:List Int) (hs:Sm s.length):Z8 s=some (cellsR s):=by
 simp only [Z8,shapeCheck_ok s hs,Qb,cellsR,sProduct_ok s hs];by_cases h:checkR s=0
 ·obtain ⟨h1,h2,h3⟩:=z0a h
  have hn:negB s=false:=by
   cases hn:negB s with
   | false=>rfl
   | true=>unfold checkR at h; rw [if_pos hn] at h; cases h
  have hb:bigB s=false:=by
   cases hb:bigB s with
   | false=>rfl
   | true=>unfold checkR at h; rw [if_neg (by simp [hn]),if_pos (Or.inr (Or.inl hb))] at h; cases h
  simp [h,prodR,hn,hb,show ¬ prodI s > 65536 by omega]
 ·simp [h]
theorem strides_ok {s:List Int} (hc:checkR s=0) (hpos:∀ n∈s,1≤n):QaH s=some (strd s):=by
 obtain ⟨h1,h2,h3⟩:=z0a hc;have hp:=prodI_pos hpos
 have hm:makeM 8 (s.length:Int) (0:Int)=some (List.replicate s.length 0):=by
  have:((s.length:Int) * 8≤(room:Int)):=by
   have:(1000:Nat) * 8≤room:=by decide +kernel
   omega
  simp [makeM,this]; omega
 have e:=str_L1 s (List.replicate s.length 0) zX zV hpos h2 s.length s [] rfl zX;simp only [strd,jT,prodI_nil,jK,jI] at e;simp only [QaH,shapeCheck_ok s (Sm_of (show s.length≤1000 by omega)),Qb,hc,hm,gCells_ok s (Sm_of (show s.length≤1000 by omega)),cellsR,if_true,ne_eq,not_true,if_false,show ¬ prodI s=0 by omega,e];rw [z0b (by simp [strd_len])]; rfl
theorem layout_ok {s:List Int} (hc:checkR s=0) (hpos:∀ n∈s,1≤n):Jh s=some ⟨strd s,s⟩:=by
 simp only [Jh,strides_ok hc hpos,Qb]
theorem gOffset_ok {s i:List Int} (h:vld s i=true) (hc:checkR s=0):J4 (s,i)=some (dotp s i,true):=by
 obtain ⟨h1,h2,h3⟩:=z0a hc;obtain ⟨r1,r2⟩:=z0d h;have hl:=z0l h;have e:=gDot_L1 s i [] [] 0 h rfl (Sm_of (show s.length≤1000 by omega)) zV zV h2;have e':YO (i,strd s,0,0)=some (0+dotp s i):=e;simp only [J4,z0f s i (Sm_of (show i.length≤1000 by omega)),h,Qb,jN,if_false,layout_ok hc (vld_pos h),JW,Qel,e',Int.zero_add]
theorem dm {o P n:Int} (ho:0≤o) (hP:0≤P) (hn:0≤n):(o % (P * n)) / n=(o / n) % P:=by
 obtain ⟨o',rfl⟩:=jZ ho;obtain ⟨P',rfl⟩:=jZ hP;obtain ⟨n',rfl⟩:=jZ hn;have:=Nat.mod_mul_left_div_self o' n' P'
 exact_mod_cast this
theorem mm {o P n:Int}:(o % (P * n)) % n=o % n:=Int.emod_emod_of_dvd o (Int.dvd_mul_left P n)
theorem dig_snoc:∀ (a:List Int) (n o:Int),(∀ m∈a,1≤m)→1≤n→0≤o→o < prodI (a++[n])→dig (a++[n]) o=dig a (o / n)++[o % n]
 | [],n,o,_,h,ho,ho2=>by
  have:prodI ([]++[n])=n:=by simp [prodI]
  rw [this] at ho2;simp only [jP,dig,prodI_nil,Int.ediv_one];rw [Int.emod_eq_of_lt ho ho2]
 | m::a,n,o,h1,h,ho,ho2=>by
  have hp:=prodI_pos (fun k hk=>h1 k (jF _ hk));have hP:prodI (a++[n])=prodI a * n:=by rw [prodI_append,prodI_cons,prodI_nil,Int.mul_one]
  have hpos:0 < prodI a * n:=Int.mul_pos zV zV;have ih:=dig_snoc a n (o % prodI (a++[n])) (fun k hk=>h1 k (jF _ hk)) h (Int.emod_nonneg _ (by rw [hP]; omega)) (Int.emod_lt_of_pos _ (by rw [hP]; exact hpos));rw [hP] at ih;simp only [List.cons_append,dig];rw [hP,ih,dm ho zV zV,mm,Int.mul_comm (prodI a) n,← Int.ediv_ediv_of_nonneg (by omega:0≤n)]
theorem vld_dig:∀ {s:List Int} {o:Int},(∀ n∈s,1≤n)→0≤o→o < prodI s→vld s (dig s o)=true
 | [],_,_,_,_=>rfl
 | n::s,o,h,h1,h2=>by
  have hp:=prodI_pos (fun k hk=>h k (jF _ hk));rw [prodI_cons] at h2;simp only [dig,vld,jD,z4];exact ⟨⟨Int.ediv_nonneg h1 zV,Int.ediv_lt_of_lt_mul zV h2⟩,vld_dig (fun k hk=>h k (jF _ hk)) (Int.emod_nonneg _ zV) (Int.emod_lt_of_pos _ zV)⟩
theorem quoM_ok {a b:Int} (ha:0≤a) (hb:1≤b) (h:a≤9223372036854775807):quoM a b=some (a / b):=by
 have h1:a / b≤a:=Int.ediv_le_self _ ha;have h2:0≤a / b:=Int.ediv_nonneg ha zV;rw [quoM,if_neg zV,Int.tdiv_eq_ediv_of_nonneg ha,W_ok zV zV]
theorem remM_ok {a b:Int} (ha:0≤a) (hb:1≤b):remM a b=some (a % b):=by
 rw [remM,if_neg zV,Int.tmod_eq_emod_of_nonneg ha]
theorem rIdx_L1 (s v1:List Int) (hv:v1.length=s.length) (hs:s.length≤1000) (hpos:∀ n∈s,1≤n):∀ (m:Nat) (a b d:List Int) (o:Int),a.length=m→s=a++b→d.length=b.length→0≤o→o < prodI a→o≤65536 →
  J5 (s,v1,List.replicate a.length 0++d,o,(a.length:Int) - 1)=some (dig a o++d)
 | 0,a,b,d,o,ha,e,hd,h1,h2,h3=>by
  obtain rfl:=List.eq_nil_of_length_eq_zero ha;rw [J5]
  have:¬ ((([]:List Int).length:Int) - 1≥0):=by simp
  simp only [this,if_false]; rfl
 | m+1,a,b,d,o,ha,e,hd,h1,h2,h3=>by
  rcases List.eq_nil_or_concat a with rfl|⟨a',n,rfl⟩
  ·simp at ha
  ·simp only [List.concat_eq_append] at ha e h2 ⊢;have ha':a'.length=m:=by simpa using ha
   rw [J5];have hl:s.length=a'.length+1+b.length:=by rw [e]; simp; omega
   have hj0:(((a'++[n]).length:Nat):Int) - 1=(a'.length:Int):=by simp
   have e':s=a'++(n::b):=by rw [e]; simp
   have hg:(List.replicate (a'++[n]).length (0:Int)++d).length=v1.length:=by simp [hv,hl,hd]
   have er:List.replicate (a'++[n]).length (0:Int)++d=List.replicate a'.length 0++0::d:=by
    rw [jU,List.length_singleton,List.replicate_succ',List.append_assoc]; rfl
   have hj:a'.length < (List.replicate (a'++[n]).length (0:Int)++d).length:=by simp; omega
   have hset:(List.replicate (a'++[n]).length (0:Int)++d).set a'.length (o % n)=List.replicate a'.length 0++(o % n::d):=by
    rw [er];have:=mid_set (p:=List.replicate a'.length (0:Int)) (s:=d) (x:=0) (y:=o % n);simp only [zB] at this;rw [this,← Qt]
   have hidx:idx s (a'.length:Int)=some n:=by rw [e']; exact Qz
   have hn:1≤n:=hpos n (by rw [e']; simp);have hposa:∀ k∈a',1≤k:=fun k hk=>hpos k (by rw [e']; exact zR _ hk)
   have h2':o < prodI a' * n:=by rwa [prodI_append,prodI_cons,prodI_nil,Int.mul_one] at h2
   have q1:o / n < prodI a':=Int.ediv_lt_of_lt_mul zV h2';have q0:0≤o / n:=Int.ediv_nonneg h1 zV;have q2:o / n≤o:=Int.ediv_le_self _ h1;have w3:W ((a'.length:Int) - 1)=(a'.length:Int) - 1:=W_ok zV zV;have ih:=rIdx_L1 s v1 hv hs hpos m a' (n::b) (o % n::d) (o / n) ha' e' (by simp [hd]) q0 q1 zV;have ht:(a'.length:Int)≥0:=by omega
   simp only [hj0,ht,if_true,hidx,Qb,remM_ok h1 hn,quoM_ok h1 hn zV,z0b hg,idx_ok hj,z0i hj,hset,w3];rw [ih,dig_snoc a' n o hposa hn h1 h2]; simp
theorem make_ok {n:Nat} (h:n≤1000):makeM 8 (n:Int) (0:Int)=some (List.replicate n 0):=by
 have:((n:Int) * 8≤(room:Int)):=by
  have:(1000:Nat) * 8≤room:=by decide +kernel
  omega
 simp [makeM,this]; omega
theorem rIndex_ok {s:List Int} {o:Int} (hs:s.length≤1000) (hpos:∀ n∈s,1≤n) (h1:0≤o) (h2:o < prodI s) (h3:o≤65536):QeC (s,o)=some (dig s o):=by
 have e:=rIdx_L1 s (List.replicate s.length 0) zX hs hpos s.length s [] [] o rfl zX rfl h1 h2 h3;simp only [jT] at e;simp only [QeC,make_ok hs,Qb,W_ok (show -9223372036854775808≤(s.length:Int) - 1 by omega) zV,e];rw [z0b (by simp [dig_len])]; rfl
theorem gIdx_L1 (S D v1:List Int):∀ (t p P q:List Int) (o:Int),S=P++strd t→P.length=p.length→q.length=p.length→(q++List.replicate t.length 0).length=v1.length→(p++t).length≤1000→(∀ n∈t,1≤n)→0≤o→o≤65536 →
  Zu (⟨S,D⟩,v1,q++List.replicate t.length 0,o,(p.length:Int))=some (q++dig t o)
 | [],p,P,q,o,e,h1,h2,h3,h4,h5,h6,h7=>by
  rw [Zu]
  have:¬ ((p.length:Int) < (S.length:Int)):=by rw [e]; simp [strd,h1]
  simp only [this,if_false]; rfl
 | n::t,p,P,q,o,e,h1,h2,h3,h4,h5,h6,h7=>by
  rw [Zu];have hpos:∀ k∈t,1≤k:=fun k hk=>h5 k (jF _ hk)
  have hp:=prodI_pos hpos;have ht:((p.length:Int) < (S.length:Int)):=by rw [e]; simp [strd,h1]; omega
  have hi:idx S (p.length:Int)=some (prodI t):=by rw [e,← h1]; exact Qz
  have er:q++List.replicate (n::t).length (0:Int)=q++0::List.replicate t.length 0:=by rw [z8,List.replicate_succ]
  have hj:p.length < (q++List.replicate (n::t).length (0:Int)).length:=by simp; omega
  have hset:(q++List.replicate (n::t).length (0:Int)).set p.length (o / prodI t)=(q++[o / prodI t])++List.replicate t.length 0:=by rw [er,← h2,mid_set]
  have w:W ((p.length:Int)+1)=((p++[n]).length:Int):=by
   simp at h4;rw [W_ok zV zV]; simp
  have r1:=Int.emod_nonneg o (show prodI t≠0 by omega)
  have r2:o % prodI t≤o:=by
   have:=Int.emod_add_mul_ediv o (prodI t)
   have:0≤prodI t * (o / prodI t):=Int.mul_nonneg zV (Int.ediv_nonneg h6 zV)
   omega
  have ih:=gIdx_L1 S D v1 t (p++[n]) (P++[prodI t]) (q++[o / prodI t]) (o % prodI t) (by rw [e]; simp [strd]) (by simp [h1]) (by simp [h2]) (by simp at h3 ⊢; omega) (by rw [← Qt]; exact h4) hpos r1 zV;simp only [ht,if_true,hi,Qb,quoM_ok h6 hp zV,z0b h3,idx_ok hj,z0i hj,hset,remM_ok h6 hp,w,ih,dig];simp
theorem gIndex_ok {s:List Int} {o:Int} (hc:checkR s=0) (hpos:∀ n∈s,1≤n) (h1:0≤o) (h2:o < prodI s):Jb (s,o)=some (dig s o,true):=by
 obtain ⟨c1,c2,c3⟩:=z0a hc;have e:=gIdx_L1 (strd s) s (List.replicate s.length 0) s [] [] [] o zX rfl rfl zX zW hpos h1 zV;simp only [jP,jK,jI] at e;have e1:¬ o < 0:=by omega
 have e2:¬ o≥prodI s:=by omega
 simp only [Jb,e1,if_false,gCells_ok s (Sm_of (show s.length≤1000 by omega)),Qb,cellsR,hc,if_true,e2,zQ,j5,layout_ok hc hpos,JF,make_ok (show s.length≤1000 by omega),e];rw [z0b (by simp [dig_len])]; rfl
mutual
def szC:Qa→Nat
 | ⟨_,_,_,_,_,_,_,kids⟩=>1+szCs kids
def szCs:List Qa→Nat
 | []=>0
 | k::ks=>szC k+szCs ks
end
mutual
def smC:Qa→Prop
 | ⟨_,shape,_,starts,_,_,perm,kids⟩=>shape.length≤40∧starts.length≤40∧perm.length≤40∧kids.length≤600∧smCs kids
def smCs:List Qa→Prop
 | []=>True
 | k::ks=>smC k∧smCs ks
end
theorem szC_pos:∀ c:Qa,1≤szC c
 | ⟨_,_,_,_,_,_,_,kids⟩=>by rw [szC]; omega
theorem szCs_len:∀ l:List Qa,l.length≤szCs l
 | []=>zH _
 | k::ks=>by have:=szCs_len ks; have:=szC_pos k; rw [szCs]; simp only [z8]; omega
mutual
theorem left_ok:∀ (c:Qa) (n:Int),0≤n→n≤600→∃ r,Qap (c,n)=some r∧-1≤r∧r≤n - 1∧(0≤r→r+szC c≤n∧smC c)
 | ⟨k,sh,b,st,ax,am,pe,ks⟩,n,h1,h2=>by
  rw [Qap];simp only [];have w:W (n - 1)=n - 1:=W_ok zV zV;obtain ⟨r,e,i1,i2,i3⟩:=left_loop ks [] (n - 1) k sh b st ax am pe zV zW;simp only [jP,jK,jI] at e;by_cases c1:(sh.length:Int) > 40
  ·exact ⟨-1,by simp only [c1,if_true,if_false,Qb,decide_true,zQ,j5],by omega,by omega,by omega⟩
  ·by_cases c2:(st.length:Int) > 40
   ·exact ⟨-1,by simp only [c1,c2,if_true,if_false,Qb,decide_true,zQ,j5],by omega,by omega,by omega⟩
   ·by_cases c3:(pe.length:Int) > 40
    ·exact ⟨-1,by simp only [c1,c2,c3,if_true,if_false,Qb,decide_true,zQ,j5],by omega,by omega,by omega⟩
    ·refine ⟨r,by simp only [c1,c2,c3,w,e,if_true,if_false,Qb,decide_true,zQ,j5],i1,i2,fun h=>?_⟩;have:=i3 h;have hl:=szCs_len ks;rw [szC,smC];exact ⟨by omega,by omega,by omega,by omega,by omega,this.2⟩
theorem left_loop:∀ (s p:List Qa) (n:Int) (k:Int) (sh:List Int) (b:Int) (st:List Int) (ax am:Int) (pe:List Int),-1≤n→(p.length:Int)+n≤600 →
  ∃ r,Yu (⟨k,sh,b,st,ax,am,pe,p++s⟩,n,(p.length:Int))=some r∧-1≤r∧r≤n∧(0≤r→r+szCs s≤n∧smCs s)
 | [],p,n,k,sh,b,st,ax,am,pe,h1,h2=>by
  rw [Yu];simp only [Ze,if_false,Qb,j5];exact ⟨n,rfl,h1,by omega,fun h=>⟨by rw [szCs]; omega,trivial⟩⟩
 | x::s,p,n,k,sh,b,st,ax,am,pe,h1,h2=>by
  rw [Yu];simp only [QN,if_true,Qb];by_cases hn:n≥0
  ·rw [decide_eq_true hn];obtain ⟨r,e,i1,i2,i3⟩:=left_ok x n hn zV;obtain ⟨r',e',j1,j2,j3⟩:=left_loop s (p++[x]) r k sh b st ax am pe i1 zW;rw [← Qt] at e';have w:W ((p.length:Int)+1)=((p++[x]).length:Int):=by rw [W_ok zV zV]; simp
   simp only [if_true,Qz,Qb,e,w,e'];refine ⟨r',rfl,j1,by omega,fun h=>?_⟩;have a:=j3 h;have b:=i3 zV;rw [szCs,smCs];exact ⟨by omega,b.2,a.2⟩
  ·rw [zP hn];simp only [j5,if_false];exact ⟨n,rfl,h1,by omega,fun h=>by omega⟩
end
theorem Few_ok (c:Qa) (n:Int) (h1:0≤n) (h2:n≤600):∃ b,Qdp (c,n)=some b∧(b=true→smC c∧(szC c:Int)≤n):=by
 obtain ⟨r,e,_,_,h⟩:=left_ok c n h1 h2;refine ⟨decide (r≥0),by simp only [Qdp,e,Qb],fun hb=>?_⟩;have h0:0≤r:=by simpa using hb
 have:=h h0;exact ⟨this.2,by omega⟩
mutual
def conv:Qa→Qh
 | ⟨k,sh,b,st,ax,am,pe,ks⟩=>⟨k,sh,b,st,ax,am,pe,convs ks⟩
def convs:List Qa→List Qh
 | []=>[]
 | k::ks=>conv k::convs ks
end
theorem Equal_ok' (a b:List Int) (hs:Sm b.length):ZP (a,b)=some (decide (a=b)):=by
 by_cases h:a.length=b.length
 ·exact Equal_ok a b (by rw [h]; exact hs)
 ·have e2:((a.length:Int)≠(b.length:Int)):=by omega
  have e3:a≠b:=fun e=>h (by rw [e])
  simp only [ZP];rw [if_pos e2,zP e3]
theorem idx_zero {α:Type} {l:List α} {k:α} {r:List α} (h:l=k::r):idx l 0=some k:=by subst h; rfl
theorem idx_one {α:Type} {l:List α} {k k2:α} {r:List α} (h:l=k::k2::r):idx l 1=some k2:=by subst h; rfl
theorem alike_ok (p0 k:Qa) (r:List Qa) (hk:p0.kids=k::r) (hs:Sm p0.shape.length):∃ b,QaO p0=some b∧(b=true→k.shape=p0.shape∧0≤p0.axis∧p0.axis < (p0.shape.length:Int)):=by
 simp only [QaO,idx_zero hk,Qb,Equal_ok' _ _ hs];by_cases h1:k.shape=p0.shape
 ·by_cases h2:p0.axis≥0
  ·by_cases h3:p0.axis < (p0.shape.length:Int)
   ·exact ⟨true,by simp [h1,h2,h3],fun _=>⟨h1,h2,h3⟩⟩
   ·exact ⟨false,by simp [h1,h2,h3],fun h=>by cases h⟩
  ·exact ⟨false,by simp [h1,h2],fun h=>by cases h⟩
 ·exact ⟨false,by simp [h1],fun h=>by cases h⟩
def catA (ax:Int) (s a b:List Int) (k:Nat):Prop:=((k:Int)=ax→s.getD k 0=W (a.getD k 0+b.getD k 0))∧((k:Int)≠ax→a.getD k 0=b.getD k 0∧a.getD k 0=s.getD k 0)
theorem get_mid {p s:List Int} {x:Int}:(p++x::s).getD p.length 0=x:=by simp
theorem join_L1 (v1 p0 v2:Qa):∀ (a b s p q u:List Int),v1.shape=p++a→v2.shape=q++b→p0.shape=u++s→a.length=b.length→a.length=s.length→p.length=q.length→p.length=u.length→Sm (p++a).length →
  ∃ o,Yc (v1,p0,v2,(p.length:Int))=some o∧(o=.inr ()→∀ k,p.length≤k→k < v1.shape.length→catA p0.axis p0.shape v1.shape v2.shape k)
 | [],b,s,p,q,u,e1,e2,e3,_,_,_,_,hs=>by
  rw [Yc]; simp only [e1,Ze,if_false];exact ⟨_,rfl,fun _ k h1 h2=>by simp at h2; omega⟩
 | x::a,y::b,z::s,p,q,u,e1,e2,e3,h1,h2,h3,h4,hs=>by
  rw [Yc];obtain ⟨o,e,ho⟩:=join_L1 v1 p0 v2 a b s (p++[x]) (q++[y]) (u++[z]) (by rw [e1]; simp) (by rw [e2]; simp) (by rw [e3]; simp) (by simpa using h1) (by simpa using h2) (by simp [h3]) (by simp [h4]) (by rw [← Qt]; exact hs);have i1:idx v1.shape (p.length:Int)=some x:=by rw [e1]; exact Qz
  have i2:idx v2.shape (p.length:Int)=some y:=by rw [e2,h3]; exact Qz
  have i3:idx p0.shape (p.length:Int)=some z:=by rw [e3,h4]; exact Qz
  have g1:v1.shape.getD p.length 0=x:=by rw [e1]; exact get_mid
  have g2:v2.shape.getD p.length 0=y:=by rw [e2,h3]; exact get_mid
  have g3:p0.shape.getD p.length 0=z:=by rw [e3,h4]; exact get_mid
  have ht:((p.length:Int) < (v1.shape.length:Int)):=by rw [e1]; exact QN
  have w:W ((p.length:Int)+1)=((p++[x]).length:Int):=mid_W hs
  have fin:∀ c:catA p0.axis p0.shape v1.shape v2.shape p.length,o=.inr ()→∀ k,p.length≤k→k < v1.shape.length→catA p0.axis p0.shape v1.shape v2.shape k:=fun c h k hk hk2=>by
   by_cases hkp:k=p.length
   ·rw [hkp]; exact c
   ·exact ho h k zW hk2
  simp only [ht,if_true,i1,i2,i3,Qb,w,e];by_cases ha:(p.length:Int)=p0.axis
  ·simp only [ha,if_true,Qb,ne_eq,not_true,if_false];by_cases hz:z=W (x+y)
   ·refine ⟨o,by simp [hz],fin ⟨fun _=>by rw [g1,g2,g3]; exact hz,fun h=>absurd ha h⟩⟩
   ·exact ⟨.inl (),by simp [hz],fun h=>by cases h⟩
  ·simp only [ha,if_false,Qb,ne_eq,z5,if_true,j5];by_cases hx:x=y
   ·by_cases hz:x=z
    ·refine ⟨o,by simp [← hx,← hz],fin ⟨fun h=>absurd h ha,fun _=>by rw [g1,g2,g3]; exact ⟨hx,hz⟩⟩⟩
    ·exact ⟨.inl (),by simp [← hx,hz],fun h=>by cases h⟩
   ·exact ⟨.inl (),by simp [hx],fun h=>by cases h⟩
 | _::_,[],_,_,_,_,_,_,_,h,_,_,_,_=>by cases h
 | _::_,_::_,[],_,_,_,_,_,_,_,h,_,_,_=>by cases h
theorem joined_ok (p0 v1 v2:Qa) (r:List Qa) (hk:p0.kids=v1::v2::r) (hs:Sm v1.shape.length):∃ b,Qbg p0=some b∧(b=true→v1.shape.length=v2.shape.length∧v1.shape.length=p0.shape.length ∧
  0≤p0.axis∧p0.axis < (v1.shape.length:Int)∧∀ k,k < v1.shape.length→catA p0.axis p0.shape v1.shape v2.shape k):=by
 simp only [Qbg,idx_zero hk,idx_one hk,Qb];by_cases h1:v1.shape.length=v2.shape.length
 ·by_cases h2:v1.shape.length=p0.shape.length
  ·by_cases h3:p0.axis < 0
   ·exact ⟨false,by simp [h1,h2,← h2,h3],fun h=>by cases h⟩
   ·by_cases h4:p0.axis≥(v1.shape.length:Int)
    ·refine ⟨false,?_,fun h=>by cases h⟩;have c1:(v1.shape.length:Int)=(v2.shape.length:Int):=by omega
     have c2:((v1.shape.length:Int) != (p0.shape.length:Int))=false:=by simp [h2]
     simp only [ne_eq,c1,not_true,if_false,Qb,j5,zP h3];rw [← c1];simp only [c2,Qb,j5,if_false,decide_eq_true h4,if_true]
    ·obtain ⟨o,e,ho⟩:=join_L1 v1 p0 v2 v1.shape v2.shape p0.shape [] [] [] rfl rfl rfl h1 h2 rfl rfl hs;have e':Yc (v1,p0,v2,0)=some o:=e;have c1:¬ ((v1.shape.length:Int)≠(v2.shape.length:Int)):=by omega
     have c2:((v1.shape.length:Int) != (p0.shape.length:Int))=false:=by simp [h2]
     have m:∀ f:Unit ⊕ Unit→Option Bool,f o=(if o.isRight then f (.inr ()) else f (.inl ())):=fun f=>by cases o <;> rfl
     simp only [c1,if_false,c2,Qb,j5,zP h3,zP h4,e'];cases o with
     | inl _=>exact ⟨_,rfl,fun h=>by cases h⟩
     | inr _=>exact ⟨_,rfl,fun _=>⟨h1,h2,by omega,by omega,fun k hk=>ho rfl k (zH _) hk⟩⟩
  ·refine ⟨false,?_,fun h=>by cases h⟩;have c1:¬ ((v1.shape.length:Int)≠(v2.shape.length:Int)):=by omega
   have c2:((v1.shape.length:Int) != (p0.shape.length:Int))=true:=by simp; omega
   simp only [c1,if_false,Qb,c2,if_true]
 ·refine ⟨false,?_,fun h=>by cases h⟩;have c1:((v1.shape.length:Int)≠(v2.shape.length:Int)):=by omega
  simp only [if_pos c1,Qb,if_true]
theorem ite_some {α:Type} {p:Prop} [Decidable p] {a b:α}:(if p then some a else some b)=some (if p then a else b):=by split <;> rfl
structure nodeF (c:Qa):Prop where
 kind:1≤c.kind∧c.kind≤7
 kids:(c.kids.length:Int)=if c.kind=7 then 2 else if c.kind=1 then 0 else 1
 chk:checkR c.shape=0
 win:c.kind=2→c.starts.length=c.shape.length∧(∀ x∈c.starts,-65536≤x∧x≤65536)∧∀ k r,c.kids=k::r→k.shape.length=c.shape.length
 rev:c.kind=3∨c.kind=4→∀ k r,c.kids=k::r→k.shape=c.shape∧0≤c.axis∧c.axis < (c.shape.length:Int)
 rot:c.kind=4→0≤c.amount∧(c.amount=0∨c.amount < c.shape.getD c.axis.toNat 0)
 tra:c.kind=5→∀ k r,c.kids=k::r→c.perm.length=k.shape.length ∧
  ((∀ n∈k.shape,0≤n)→∀ j,j < k.shape.length→0≤c.perm.getD j 0∧c.perm.getD j 0 < (c.shape.length:Int)∧c.shape.getD (c.perm.getD j 0).toNat 0≤k.shape.getD j 0)
 cat:c.kind=7→∀ k k2 r,c.kids=k::k2::r→k.shape.length=k2.shape.length∧k.shape.length=c.shape.length∧0≤c.axis∧c.axis < (k.shape.length:Int)∧∀ j,j < k.shape.length→catA c.axis c.shape k.shape k2.shape j
theorem nodeW_L1 (c:Qa):∀ (s p:List Int),c.starts=p++s→Sm (p++s).length→∃ o,YV (c,(p.length:Int))=some o∧(o=.inr ()→∀ x∈s,-65536≤x∧x≤65536)
 | [],p,e1,hs=>by
  rw [YV]; simp only [e1,Ze,if_false];exact ⟨_,rfl,fun _ x h=>by cases h⟩
 | x::s,p,e1,hs=>by
  rw [YV];obtain ⟨o,e,ho⟩:=nodeW_L1 c s (p++[x]) (by rw [e1]; simp) (by rw [← Qt]; exact hs);simp only [e1,QN,if_true,Qz,Qb,mid_W hs,e];by_cases ha:x < -65536
  ·exact ⟨.inl (),by simp [ha,Qb],fun h=>by cases h⟩
  ·by_cases hb:x > 65536
   ·exact ⟨.inl (),by simp [ha,hb,Qb],fun h=>by cases h⟩
   ·refine ⟨o,by simp [ha,hb,Qb],fun h y hy=>?_⟩;rcases List.mem_cons.1 hy with rfl|hy
    ·omega
    ·exact ho h y hy
theorem kids_one {c:Qa} (h:(c.kids.length:Int)=1):∃ k,c.kids=[k]:=by
 match hk:c.kids,h with
 | [k],_=>exact ⟨k,rfl⟩
 | [],h=>simp at h
 | _::_::_,h=>simp at h; omega
theorem kids_two {c:Qa} (h:(c.kids.length:Int)=2):∃ k k2,c.kids=[k,k2]:=by
 match hk:c.kids,h with
 | [k,k2],_=>exact ⟨k,k2,rfl⟩
 | [],h=>simp at h
 | [_],h=>simp at h
 | _::_::_::_,h=>simp at h; omega
theorem ex_if {B:Bool} {R:Option Bool} {F:Prop} (h:B=false→∃ b,R=some b∧(b=true→F)):∃ b,(if B=true then some false else R)=some b∧(b=true→F):=by
 cases B with
 | true=>exact ⟨false,rfl,fun h=>by cases h⟩
 | false=>exact h rfl
theorem node_ok (c:Qa) (bs:List (List Int)) (h1:c.shape.length≤40) (h2:c.starts.length≤40) (h4:∀ k∈c.kids,k.shape.length≤40) :
  ∃ b,Qaq (c,bs)=some b∧(b=true→nodeF c):=by
 have hS:Sm c.shape.length:=Sm_of (show c.shape.length≤1000 by omega);simp only [Qaq,ite_some,Qb,Check_ok _ hS];refine ex_if fun g3=>?_
 have k1:¬ c.kind < 1:=fun h=>by simp [h] at g3
 have k7:¬ c.kind > 7:=fun h=>by simp [h] at g3
 have kl:(c.kids.length:Int)=if c.kind=7 then 2 else if c.kind=1 then 0 else 1:=Decidable.byContradiction fun h=>by simp [h] at g3
 have kc:checkR c.shape=0:=Decidable.byContradiction fun h=>by simp [h] at g3
 clear g3;refine ex_if fun g7=>?_
 clear g7;by_cases c1:c.kind=1
 ·rw [if_pos c1];have hn:nodeF c:=⟨by omega,kl,kc,by omega,by omega,by omega,by omega,by omega⟩;by_cases hb:0≤c.buffer∧c.buffer < (bs.length:Int)
  ·have hb':(if c.buffer≥0 then decide (c.buffer < (bs.length:Int)) else false)=true:=by simp [hb]
   rw [if_pos hb'];have hi:c.buffer.toNat < bs.length:=by omega
   have:idx bs c.buffer=some bs[c.buffer.toNat]:=by simp [idx,hb.1,hi]
   simp only [this,Qb,Equal_ok' _ _ hS];exact ⟨_,rfl,fun _=>hn⟩
  ·have hb':¬ (if c.buffer≥0 then decide (c.buffer < (bs.length:Int)) else false)=true:=by
    by_cases h0:c.buffer≥0
    ·simp only [h0,if_true,z4]; omega
    ·simp [h0]
   rw [if_neg hb'];exact ⟨_,rfl,fun h=>by cases h⟩
 rw [if_neg c1];by_cases c2:c.kind=2
 ·rw [if_pos c2];obtain ⟨k,hk⟩:=kids_one (c:=c) (by rw [kl,if_neg zV,if_neg c1]);obtain ⟨o,e,ho⟩:=nodeW_L1 c c.starts [] rfl (Sm_of (show ([]++c.starts).length≤1000 by simp; omega));have e':YV (c,0)=some o:=e;rw [e',Qb];cases o with
  | inl _=>exact ⟨_,rfl,fun h=>by cases h⟩
  | inr _ =>
   simp only [idx_zero hk,Qb];by_cases hl:(c.starts.length:Int)=(c.shape.length:Int)
   ·rw [if_pos hl];refine ⟨_,rfl,fun h=>⟨by omega,kl,kc,fun _=>⟨by omega,ho rfl,fun k' r hk'=>?_⟩,by omega,by omega,by omega,by omega⟩⟩;rw [hk] at hk';cases hk';simp at h; omega
   ·rw [if_neg hl]; exact ⟨_,rfl,fun h=>by cases h⟩
 rw [if_neg c2];by_cases c3:c.kind=3
 ·rw [if_pos c3];obtain ⟨k,hk⟩:=kids_one (c:=c) (by rw [kl,if_neg zV,if_neg c1]);obtain ⟨b,e,hb⟩:=alike_ok c k [] hk hS;rw [e,Qb];exact ⟨_,rfl,fun h=>⟨by omega,kl,kc,by omega,fun _ k' r hk'=>by rw [hk] at hk'; cases hk'; exact hb h,by omega,by omega,by omega⟩⟩
 rw [if_neg c3];by_cases c4:c.kind=4
 ·rw [if_pos c4];obtain ⟨k,hk⟩:=kids_one (c:=c) (by rw [kl,if_neg zV,if_neg c1]);obtain ⟨b,e,hb⟩:=alike_ok c k [] hk hS;rw [e,Qb];cases b with
  | false=>exact ⟨false,by simp,fun h=>by cases h⟩
  | true =>
   obtain ⟨a1,a2,a3⟩:=hb rfl;have hr:c.kind=3∨c.kind=4→∀ k r,c.kids=k::r→k.shape=c.shape∧0≤c.axis∧c.axis < (c.shape.length:Int):=fun _ k' r hk'=>by rw [hk] at hk'; cases hk'; exact ⟨a1,a2,a3⟩
   by_cases hm:c.amount≥0
   ·simp only [if_true,decide_eq_true hm];by_cases h0:c.amount=0
    ·rw [if_pos h0];exact ⟨_,rfl,fun h=>⟨by omega,kl,kc,by omega,hr,fun _=>⟨hm,Or.inl h0⟩,by omega,by omega⟩⟩
    ·rw [if_neg h0];simp only [z0e a2 a3,Qb];exact ⟨_,rfl,fun h=>⟨by omega,kl,kc,by omega,hr,fun _=>⟨hm,Or.inr (by simpa using h)⟩,by omega,by omega⟩⟩
   ·simp only [if_true,zP hm,j5,if_false];exact ⟨_,rfl,fun h=>by cases h⟩
 rw [if_neg c4];by_cases c5:c.kind=5
 ·rw [if_pos c5];obtain ⟨k,hk⟩:=kids_one (c:=c) (by rw [kl,if_neg zV,if_neg c1]);have hks:=h4 k (by rw [hk]; simp);obtain ⟨b,e,hb⟩:=tr_ok c k (idx_zero hk) (Sm_of (show k.shape.length≤1000 by omega)) hS;rw [e,Qb];exact ⟨_,rfl,fun h=>⟨by omega,kl,kc,by omega,by omega,by omega,fun _ k' r hk'=>by rw [hk] at hk'; cases hk'; exact hb h,by omega⟩⟩
 rw [if_neg c5];by_cases c7:c.kind=7
 ·rw [if_pos c7];obtain ⟨k,k2,hk⟩:=kids_two (c:=c) (by rw [kl,if_pos c7]);have hks:=h4 k (by rw [hk]; simp);obtain ⟨b,e,hb⟩:=joined_ok c k k2 [] hk (Sm_of (show k.shape.length≤1000 by omega));rw [e,Qb];exact ⟨_,rfl,fun h=>⟨by omega,kl,kc,by omega,by omega,by omega,by omega,fun _ k' k2' r hk'=>by rw [hk] at hk'; cases hk'; exact hb h⟩⟩
 ·rw [if_neg c7];exact ⟨_,rfl,fun _=>⟨by omega,kl,kc,by omega,by omega,by omega,by omega,by omega⟩⟩
theorem smCs_mem:∀ {l:List Qa},smCs l→∀ k∈l,smC k
 | x::l,h,k,hk=>by
  rw [smCs] at h;rcases List.mem_cons.1 hk with rfl|hk
  ·exact h.1
  ·exact smCs_mem h.2 k hk
 | [],_,_,hk=>by cases hk
theorem smC_f {c:Qa} (h:smC c):c.shape.length≤40∧c.starts.length≤40∧c.perm.length≤40∧c.kids.length≤600∧smCs c.kids:=by
 cases c; rw [smC] at h; exact h
theorem Qh5 {α:Type} {p s:List α} {x:α} (h:p.length+(x::s).length≤600):W ((p.length:Int)+1)=((p++[x]).length:Int):=by
 simp at h;rw [W_ok zV zV]; simp
def bufF (bs:List (List Int)) (c:Qa):Prop:=c.kind=1→idx bs c.buffer=some c.shape
theorem node_buf (c:Qa) (bs:List (List Int)) (hS:Sm c.shape.length) (h:Qaq (c,bs)=some true):bufF bs c:=by
 intro c1;simp only [Qaq,ite_some,Qb,Check_ok _ hS] at h
 have g:∀ {B:Bool} {R:Option Bool},(if B=true then some false else R)=some true→R=some true:=fun {B} {R} h=>by
  cases B with
  | true=>cases h
  | false=>exact h
 replace h:=g (g h);rw [if_pos c1] at h;by_cases hb':0≤c.buffer∧c.buffer < (bs.length:Int)
 ·have hi:c.buffer.toNat < bs.length:=by omega
  have e:idx bs c.buffer=some bs[c.buffer.toNat]:=by simp [idx,hb'.1,hi]
  simp only [show c.buffer≥0 from hb'.1,if_true,decide_eq_true hb'.2,e,Qb,Equal_ok' _ _ hS,j8,z4] at h;rw [e,h]
 ·have hb:¬ (if c.buffer≥0 then decide (c.buffer < (bs.length:Int)) else false)=true:=by
   by_cases h0:c.buffer≥0
   ·simp only [h0,if_true,z4]; omega
   ·simp [h0]
  rw [if_neg hb] at h;cases h
mutual
def nodesF (bs:List (List Int)):Qa→Prop
 | ⟨k,sh,b,st,ax,am,pe,ks⟩=>nodeF ⟨k,sh,b,st,ax,am,pe,ks⟩∧bufF bs ⟨k,sh,b,st,ax,am,pe,ks⟩∧nodesFs bs ks
def nodesFs (bs:List (List Int)):List Qa→Prop
 | []=>True
 | k::ks=>nodesF bs k∧nodesFs bs ks
end
theorem nodesFs_mem {bs:List (List Int)}:∀ {l:List Qa},nodesFs bs l→∀ k∈l,nodesF bs k
 | x::l,h,k,hk=>by
  rw [nodesFs] at h;rcases List.mem_cons.1 hk with rfl|hk
  ·exact h.1
  ·exact nodesFs_mem h.2 k hk
 | [],_,_,hk=>by cases hk
theorem z0h {bs:List (List Int)} {c:Qa} (h:nodesF bs c):nodeF c∧bufF bs c∧∀ k∈c.kids,nodesF bs k:=by
 cases c; rw [nodesF] at h; exact ⟨h.1,h.2.1,nodesFs_mem h.2.2⟩
mutual
theorem nodes_ok (bs:List (List Int)):∀ (c:Qa),smC c→∃ b,JU (c,bs)=some b∧(b=true→nodesF bs c)
 | ⟨k,sh,b,st,ax,am,pe,ks⟩,h=>by
  have hf:=smC_f h;rw [JU];obtain ⟨v,e,hv⟩:=node_ok ⟨k,sh,b,st,ax,am,pe,ks⟩ bs hf.1 hf.2.1 (fun k hk=>(smC_f (smCs_mem hf.2.2.2.2 k hk)).1);simp only [e,Qb];cases v with
  | false=>exact ⟨false,rfl,fun h=>by cases h⟩
  | true =>
   have hbuf:=node_buf _ bs (Sm_of (show sh.length≤1000 by have:=hf.1; simp only at this; omega)) e;obtain ⟨o,e2,ho⟩:=nodes_loop bs ks [] k sh b st ax am pe hf.2.2.2.2 (by have:=hf.2.2.2.1; simpa using this);simp only [jP,jK,jI] at e2;simp only [jN,if_false,e2,Qb];cases o with
   | inl _=>exact ⟨false,rfl,fun h=>by cases h⟩
   | inr _=>exact ⟨true,rfl,fun _=>by rw [nodesF]; exact ⟨hv rfl,hbuf,ho rfl⟩⟩
theorem nodes_loop (bs:List (List Int)):∀ (s p:List Qa) (k:Int) (sh:List Int) (b:Int) (st:List Int) (ax am:Int) (pe:List Int),smCs s→p.length+s.length≤600 →
  ∃ o,Z7 (⟨k,sh,b,st,ax,am,pe,p++s⟩,bs,(p.length:Int))=some o∧(o=.inr ()→nodesFs bs s)
 | [],p,k,sh,b,st,ax,am,pe,h1,h2=>by
  rw [Z7]; simp only [Ze,if_false];exact ⟨_,rfl,fun _=>trivial⟩
 | x::s,p,k,sh,b,st,ax,am,pe,h1,h2=>by
  rw [Z7];rw [smCs] at h1;obtain ⟨v,e,hv⟩:=nodes_ok bs x h1.1;obtain ⟨o,e',ho⟩:=nodes_loop bs s (p++[x]) k sh b st ax am pe h1.2 (by simp at h2 ⊢; omega);rw [← Qt] at e';simp only [QN,if_true,Qz,Qb,e,Qh5 h2,e'];cases v with
  | false=>exact ⟨.inl (),rfl,fun h=>by cases h⟩
  | true=>exact ⟨o,rfl,fun h=>by rw [nodesFs]; exact ⟨hv rfl,ho h⟩⟩
end
mutual
theorem depth_ok:∀ (c:Qa),smC c→∃ d,JS c=some d
 | ⟨k,sh,b,st,ax,am,pe,ks⟩,h=>by
  have hf:=smC_f h;rw [JS];obtain ⟨o,e2⟩:=depth_loop ks [] 0 k sh b st ax am pe hf.2.2.2.2 (by have:=hf.2.2.2.1; simpa using this);simp only [jP,jK,jI] at e2;simp only [e2,Qb]; exact ⟨_,rfl⟩
theorem depth_loop:∀ (s p:List Qa) (d k:Int) (sh:List Int) (b:Int) (st:List Int) (ax am:Int) (pe:List Int),smCs s→p.length+s.length≤600 →
  ∃ o,Z5 (⟨k,sh,b,st,ax,am,pe,p++s⟩,d,(p.length:Int))=some o
 | [],p,d,k,sh,b,st,ax,am,pe,h1,h2=>by
  rw [Z5]; simp only [Ze,if_false];exact ⟨_,rfl⟩
 | x::s,p,d,k,sh,b,st,ax,am,pe,h1,h2=>by
  rw [Z5];rw [smCs] at h1;obtain ⟨v,e⟩:=depth_ok x h1.1;obtain ⟨o,e'⟩:=depth_loop s (p++[x]) (if d < v then v else d) k sh b st ax am pe h1.2 (by simp at h2 ⊢; omega);rw [← Qt] at e';simp only [QN,if_true,Qz,Qb,e,Qh5 h2,e'];exact ⟨_,rfl⟩
end
def pmI:List Int→Int
 | []=>1
 | n::s=>(if n < 1 then 1 else n) * pmI s
theorem small_L1 (most:Int) (hm:0≤most∧most≤1000000):∀ (s p:List Int) (v:Int),p.length+s.length≤600→(∀ n∈s,n≤65536)→1≤v→v≤100000000→∃ o,Yz (p++s,most,v,(p.length:Int))=some o∧(o=.inr ()→s=[]∨v * pmI s≤100 * most)
 | [],p,v,h,hd,h1,h2=>by
  refine ⟨.inr (),?_,fun _=>Or.inl rfl⟩; rw [Yz]; simp only [Ze,if_false]
 | x::s,p,v,h,hd,h1,h2=>by
  rw [Yz];have w1:W (100 * most)=100 * most:=W_ok zV zV;have hx:=hd x (jL ..);have hx2:1≤(if x < 1 then 1 else x)∧(if x < 1 then 1 else x)≤65536:=by split <;> omega
  have b1:=Int.mul_le_mul h2 hx2.2 zV zV;have b2:=Int.mul_le_mul h1 hx2.1 zV zV;have w2:W (v * (if x < 1 then 1 else x))=v * (if x < 1 then 1 else x):=W_ok zV zV;simp only [QN,if_true,Qz,Qb,Qh5 h,w1,w2];by_cases hg:v * (if x < 1 then 1 else x) > 100 * most
  ·exact ⟨_,if_pos hg,fun h=>by cases h⟩
  ·obtain ⟨o,e,ho⟩:=small_L1 most hm s (p++[x]) (v * (if x < 1 then 1 else x)) (by simp at h ⊢; omega) (fun n hn=>hd n (jF _ hn)) zV zV;rw [← Qt] at e;rw [if_neg hg];refine ⟨o,e,fun h=>Or.inr ?_⟩;rw [pmI,← Int.mul_assoc];rcases ho h with rfl|h
   ·rw [pmI,Int.mul_one]; omega
   ·exact h
def smallS (m:Int) (l:List Int):Prop:=l.length≤6∧checkR l=0∧prodI l≤m∧(l=[]∨pmI l≤100 * m)
theorem small_ok (l:List Int) (most:Int) (hm:0≤most∧most≤1000000) (h:l.length≤40):∃ b,QaK (l,most)=some b∧(b=true→smallS most l):=by
 have hS:Sm l.length:=Sm_of (show l.length≤1000 by omega);simp only [QaK,Check_ok _ hS,Cells_ok _ hS,Qb,ite_some];by_cases g1:(l.length:Int) > 6
 ·exact ⟨false,by simp [g1],fun h=>by cases h⟩
 by_cases g2:checkR l=0
 ·have hc:cellsR l=prodI l:=by rw [cellsR,if_pos g2]
  by_cases g3:cellsR l > most
  ·exact ⟨false,by simp [g1,g2,g3],fun h=>by cases h⟩
  ·obtain ⟨o,e,ho⟩:=small_L1 most hm l [] 1 zW (fun n hn=>((z0a g2).2.2 n hn).2) zV zV;have e':Yz (l,most,1,0)=some o:=e;simp only [g1,g2,g3,e',if_false,bne_self_eq_false,j5,zQ,Qb];cases o with
   | inl _=>exact ⟨_,rfl,fun h=>by cases h⟩
   | inr _=>exact ⟨_,rfl,fun _=>⟨by omega,g2,by omega,by rcases ho rfl with h|h; exact Or.inl h; exact Or.inr zV⟩⟩
 ·exact ⟨false,by simp [g1,g2],fun h=>by cases h⟩
mutual
def cellsF (m:Int):Qa→Prop
 | ⟨k,sh,b,st,ax,am,pe,ks⟩=>smallS m sh∧cellsFs m ks
def cellsFs (m:Int):List Qa→Prop
 | []=>True
 | k::ks=>cellsF m k∧cellsFs m ks
end
theorem cellsFs_mem {m:Int}:∀ {l:List Qa},cellsFs m l→∀ k∈l,cellsF m k
 | x::l,h,k,hk=>by
  rw [cellsFs] at h;rcases List.mem_cons.1 hk with rfl|hk
  ·exact h.1
  ·exact cellsFs_mem h.2 k hk
 | [],_,_,hk=>by cases hk
theorem cellsF_f {m:Int} {c:Qa} (h:cellsF m c):smallS m c.shape∧∀ k∈c.kids,cellsF m k:=by
 cases c; rw [cellsF] at h; exact ⟨h.1,cellsFs_mem h.2⟩
mutual
theorem cells_ok (m:Int) (hm:0≤m∧m≤1000000):∀ (c:Qa),smC c→∃ d,JT (c,m)=some d∧(d=true→cellsF m c)
 | ⟨k,sh,b,st,ax,am,pe,ks⟩,h=>by
  have hf:=smC_f h;rw [JT];obtain ⟨v,e,hv⟩:=small_ok sh m hm hf.1;obtain ⟨o,e2,ho⟩:=cells_loop m hm ks [] k sh b st ax am pe hf.2.2.2.2 (by have:=hf.2.2.2.1; simpa using this);simp only [jP,jK,jI] at e2;simp only [e,e2,Qb];cases v
  ·exact ⟨_,rfl,fun h=>by cases h⟩
  ·cases o
   ·exact ⟨_,rfl,fun h=>by cases h⟩
   ·exact ⟨_,rfl,fun _=>by rw [cellsF]; exact ⟨hv rfl,ho rfl⟩⟩
theorem cells_loop (m:Int) (hm:0≤m∧m≤1000000):∀ (s p:List Qa) (k:Int) (sh:List Int) (b:Int) (st:List Int) (ax am:Int) (pe:List Int),smCs s→p.length+s.length≤600 →
  ∃ o,Z6 (⟨k,sh,b,st,ax,am,pe,p++s⟩,m,(p.length:Int))=some o∧(o=.inr ()→cellsFs m s)
 | [],p,k,sh,b,st,ax,am,pe,h1,h2=>by
  rw [Z6]; simp only [Ze,if_false];exact ⟨_,rfl,fun _=>trivial⟩
 | x::s,p,k,sh,b,st,ax,am,pe,h1,h2=>by
  rw [Z6];rw [smCs] at h1;obtain ⟨v,e,hv⟩:=cells_ok m hm x h1.1;obtain ⟨o,e',ho⟩:=cells_loop m hm s (p++[x]) k sh b st ax am pe h1.2 (by simp at h2 ⊢; omega);rw [← Qt] at e';simp only [QN,if_true,Qz,Qb,e,Qh5 h2,e'];cases v
  ·exact ⟨_,rfl,fun h=>by cases h⟩
  ·exact ⟨o,rfl,fun h=>by rw [cellsFs]; exact ⟨hv rfl,ho h⟩⟩
end
theorem Small_ok (c:Qa) (bs:List (List Int)) (m:Int) (hm:0≤m∧m≤1000000):∃ b,QbT (c,bs,m)=some b∧(b=true→smC c∧nodesF bs c∧cellsF m c∧(szC c:Int)≤60∧bs.length≤20):=by
 simp only [QbT];have eta:(⟨c.kind,c.shape,c.buffer,c.starts,c.axis,c.amount,c.perm,c.kids⟩:Qa)=c:=by cases c; rfl
 try rw [eta]
 by_cases h1:(bs.length:Int)≤20
 ·obtain ⟨b,e,hb⟩:=Few_ok c 60 zV zV;simp only [h1,if_true,e,Qb];cases b with
  | false=>exact ⟨false,by simp [Qb],fun h=>by cases h⟩
  | true =>
   obtain ⟨hs,hz⟩:=hb rfl;obtain ⟨d,e2⟩:=depth_ok c hs;obtain ⟨v,e3,hv⟩:=nodes_ok bs c hs;obtain ⟨x,e4,hx⟩:=cells_ok m hm c hs;simp only [if_true,Qc8,e2,Qb];by_cases hd:d≤300
   ·simp only [hd,if_true,e3,Qb];cases v with
    | false=>exact ⟨false,by simp [Qb],fun h=>by cases h⟩
    | true =>
     simp only [if_true,e4,Qb];exact ⟨x,rfl,fun h=>⟨hs,hv rfl,hx h,hz,by omega⟩⟩
   ·simp only [hd,if_false,Qb,j5];exact ⟨false,rfl,fun h=>by cases h⟩
 ·exact ⟨false,by simp [h1,Qb],fun h=>by cases h⟩
theorem conv_shape:∀ k:Qa,(conv k).shape=k.shape
 | ⟨_,_,_,_,_,_,_,_⟩=>rfl
theorem z0k {l:List Int} (h:l.length≤1000):Qs l=some l:=by
 have:app 8 ([]:List Int) l=some ([]++l):=app_ok (by
  have:(1000:Nat) * 8≤room:=by decide +kernel
  simp; omega)
 rw [Qs,this]; rfl
theorem app0_ok {l:List Int} (h:l.length≤1000):app 8 ([]:List Int) l=some l:=z0k h
theorem z0c {p:Prop} [Decidable p] {β:Type} {f:Unit→Option β} {r:Option β} (h:p) (h2:f ()=r):(QS p>>=f)=r:=by rw [QS,if_pos h]; exact h2
def kidS (c:Qa):List Int:=match c.kids with|[]=>[]|k::_=>k.shape
def stepV (c:Qa) (i:List Int):Int × List Int × Bool :=
 if c.kind=2 then (0,if vld (kidS c) (addW i c.starts)=true then addW i c.starts else [],vld (kidS c) (addW i c.starts))
 else if c.kind=3 then (0,i.set c.axis.toNat ((kidS c).getD c.axis.toNat 0 - 1 - i.getD c.axis.toNat 0),true)
 else if c.kind=4 then (0,i.set c.axis.toNat ((i.getD c.axis.toNat 0+c.amount) % (kidS c).getD c.axis.toNat 0),true)
 else if c.kind=5 then (0,pick i c.perm,true)
 else if c.kind=6 then (if prodI (kidS c)=0 then (0,[],false) else (0,dig (kidS c) (dotp c.shape i % prodI (kidS c)),true))
 else if i.getD c.axis.toNat 0 < (kidS c).getD c.axis.toNat 0 then (0,i,true) else (1,i.set c.axis.toNat (i.getD c.axis.toNat 0 - (kidS c).getD c.axis.toNat 0),true)
def stepF (c:Qa) (i:List Int):Int × List Int × Bool:=if c.kind=1 then (0,[],false) else if vld c.shape i=true then stepV c i else (0,[],false)
theorem stepF_v {c:Qa} {i:List Int} (h1:c.kind≠1) (hv:vld c.shape i=true):stepF c i=stepV c i:=by rw [stepF,if_neg h1,if_pos hv]
theorem stepV2 {c:Qa} {i:List Int} (h:c.kind=2):stepV c i=(0,if vld (kidS c) (addW i c.starts)=true then addW i c.starts else [],vld (kidS c) (addW i c.starts)):=if_pos h
theorem stepV3 {c:Qa} {i:List Int} (h:c.kind=3):stepV c i=(0,i.set c.axis.toNat ((kidS c).getD c.axis.toNat 0 - 1 - i.getD c.axis.toNat 0),true):=by
 rw [stepV,if_neg zV,if_pos h]
theorem stepV4 {c:Qa} {i:List Int} (h:c.kind=4):stepV c i=(0,i.set c.axis.toNat ((i.getD c.axis.toNat 0+c.amount) % (kidS c).getD c.axis.toNat 0),true):=by
 rw [stepV,if_neg zV,if_neg zV,if_pos h]
theorem stepV5 {c:Qa} {i:List Int} (h:c.kind=5):stepV c i=(0,pick i c.perm,true):=by
 rw [stepV,if_neg zV,if_neg zV,if_neg zV,if_pos h]
theorem stepV6 {c:Qa} {i:List Int} (h:c.kind=6):stepV c i=if prodI (kidS c)=0 then (0,[],false) else (0,dig (kidS c) (dotp c.shape i % prodI (kidS c)),true):=by
 rw [stepV,if_neg zV,if_neg zV,if_neg zV,if_neg zV,if_pos h]
theorem stepV7 {c:Qa} {i:List Int} (h:c.kind=7):stepV c i=if i.getD c.axis.toNat 0 < (kidS c).getD c.axis.toNat 0 then (0,i,true) else (1,i.set c.axis.toNat (i.getD c.axis.toNat 0 - (kidS c).getD c.axis.toNat 0),true):=by
 rw [stepV,if_neg zV,if_neg zV,if_neg zV,if_neg zV,if_neg zV]
def stepPj (c:Qa) (i:List Int):Prop:=∃ k l ok,stepF c i=(k,l,ok)∧YK (conv c,i)=some (k,l,ok)∧YB (c,i)=some (k,l,ok)∧l.length≤1000 ∧
 (ok=true→∃ kid,idx c.kids k=some kid∧vld kid.shape l=true∧kid.shape.length≤40)
section
variable {sh:List Int} {bu:Int} {st:List Int} {ax am:Int} {pe:List Int} {ks:List Qa} {i:List Int}
theorem z0j {l:List Int} {j:Nat} {v:Int}:(l.set j v).length=l.length:=by simp
theorem step2 (h:smC ⟨2,sh,bu,st,ax,am,pe,ks⟩) (hn:nodeF ⟨2,sh,bu,st,ax,am,pe,ks⟩) (hi:i.length≤40) (hv:vld sh i=true):stepPj ⟨2,sh,bu,st,ax,am,pe,ks⟩ i:=by
 obtain ⟨f1,f2,f3,f4,f5⟩:=smC_f h;simp only at f1 f2 f3 f4 f5;obtain ⟨kid,hk⟩:=kids_one (c:=⟨2,sh,bu,st,ax,am,pe,ks⟩) (by rw [hn.kids]; simp);simp only at hk;subst hk;obtain ⟨n1,n2,n3⟩:=hn.win rfl;have n3:kid.shape.length=sh.length:=n3 kid [] rfl;have n1:st.length=sh.length:=n1;have hl:=z0l hv;have e1:=rWin_L1 i i kid 2 sh bu ax am pe [kid] st i [] [] zV rfl rfl (Sm_of (show ([]++st).length≤1000 by simp; omega));have e2:=gWin_L1 i 2 sh bu ax am pe [conv kid] st i [] [] zV rfl rfl (Sm_of (show ([]++st).length≤1000 by simp; omega));simp only [jP,jK,jI] at e1 e2;have al:(addW i st).length=i.length:=addW_len zV;have v1:=z0f kid.shape (addW i st) (Sm_of (show (addW i st).length≤1000 by omega));have v2:=z0g kid.shape (addW i st) (Sm_of (show kid.shape.length≤1000 by omega))
 have b1:=z0f sh i (Sm_of (show i.length≤1000 by omega));have b2:=z0g sh i (Sm_of (show sh.length≤1000 by omega));have i1:idx [conv kid] 0=some (conv kid):=rfl;have i2:idx [kid] 0=some kid:=rfl;have g8:∀ inst:Decidable (0≤(2:Int)∧(2:Int) < 8),@QS (0≤(2:Int)∧(2:Int) < 8) inst=some ():=fun inst=>@z0b _ inst ⟨by omega,by omega⟩
 have gl:QS ((addW i st).length=i.length)=some ():=z0b al;refine ⟨0,if vld kid.shape (addW i st)=true then addW i st else [],vld kid.shape (addW i st),(stepF_v (show (2:Int)≠1 by decide) hv).trans (stepV2 rfl),?_,?_,?_,fun hok=>⟨kid,rfl,?_,by omega⟩⟩
 ·simp only [conv,convs,YK,b1,hv,Qb,jN,if_false,g8,show ¬ ((2:Int)=0) by decide,show ¬ ((2:Int)=1) by decide,if_true,z0k (show i.length≤1000 by omega),XP,e2,i1,gl,conv_shape,v1];refine z0c ⟨by show (0:Int)≤2; omega,by show (2:Int) < 8; omega⟩ ?_;cases vld kid.shape (addW i st)
  ·rfl
  ·simp only [if_true,jN,if_false,Qb,gl]
 ·simp only [YB,b2,hv,Qb,Bool.not_true,j5,if_false,show ¬ ((2:Int)=1) by decide,if_true,app0_ok (show i.length≤1000 by omega),e1,i2,gl,v2];cases vld kid.shape (addW i st)
  ·rfl
  ·simp only [if_true,jN,if_false,Qb,gl]
 ·split
  ·omega
  ·simp
 ·rw [hok,if_pos rfl]; exact hok
theorem getD_set {l:List Int} {j k:Nat} {v:Int} (hj:j < l.length):(l.set j v).getD k 0=if k=j then v else l.getD k 0:=by
 by_cases h:k=j
 ·subst h; simp [hj]
 ·simp [h,z6,Ne.symm h]
theorem step3 (h:smC ⟨3,sh,bu,st,ax,am,pe,ks⟩) (hn:nodeF ⟨3,sh,bu,st,ax,am,pe,ks⟩) (hi:i.length≤40) (hv:vld sh i=true):stepPj ⟨3,sh,bu,st,ax,am,pe,ks⟩ i:=by
 obtain ⟨f1,f2,f3,f4,f5⟩:=smC_f h;simp only at f1 f2 f3 f4 f5;obtain ⟨kid,hk⟩:=kids_one (c:=⟨3,sh,bu,st,ax,am,pe,ks⟩) (by rw [hn.kids]; simp);simp only at hk;subst hk;obtain ⟨n1,n2,n3⟩:=hn.rev (Or.inl rfl) kid [] rfl;have n1:kid.shape=sh:=n1;have n2:0≤ax:=n2;have n3:ax < (sh.length:Int):=n3;have hl:=z0l hv;obtain ⟨c1,c2,c3⟩:=z0a hn.chk;simp only at c1 c2 c3;obtain ⟨j,rfl⟩:=jZ n2;have hj:j < sh.length:=by omega
 have g:=z0m hv j hj
 have d:sh.getD j 0≤65536:=by
  rw [jA,jB hj];exact (c3 _ (z0 _)).2
 have i1:idx sh (j:Int)=some (sh.getD j 0):=by rw [z0e n2 n3]; simp
 have i2:idx i (j:Int)=some (i.getD j 0):=by rw [z0e (l:=i) n2 zV]; simp
 have w:W (W (sh.getD j 0 - 1) - i.getD j 0)=sh.getD j 0 - 1 - i.getD j 0:=by
  rw [show W (sh.getD j 0 - 1)=sh.getD j 0 - 1 from W_ok zV zV,W_ok zV zV]
 have b1:=z0f sh i (Sm_of (show i.length≤1000 by omega));have b2:=z0g sh i (Sm_of (show sh.length≤1000 by omega));have hs:setM i (j:Int) (sh.getD j 0 - 1 - i.getD j 0)=some (i.set j (sh.getD j 0 - 1 - i.getD j 0)):=z0i zV;have k2:idx [kid] 0=some kid:=rfl;have g8:∀ inst:Decidable (0≤(3:Int)∧(3:Int) < 8),@QS (0≤(3:Int)∧(3:Int) < 8) inst=some ():=fun inst=>@z0b _ inst ⟨by omega,by omega⟩
 have gl:QS ((i.set j (sh.getD j 0 - 1 - i.getD j 0)).length=i.length)=some ():=z0b z0j;refine ⟨0,i.set j (sh.getD j 0 - 1 - i.getD j 0),true,(stepF_v (show (3:Int)≠1 by decide) hv).trans ((stepV3 rfl).trans (by show (0,i.set j (kid.shape.getD j 0 - 1 - i.getD j 0),true)=_; rw [n1])),?_,?_,by rw [z0j]; omega,fun _=>⟨kid,rfl,?_,by rw [n1]; omega⟩⟩
 ·simp only [conv,convs,YK,b1,hv,Qb,jN,if_false,g8,show ¬ ((3:Int)=0) by decide,show ¬ ((3:Int)=1) by decide,show ¬ ((3:Int)=2) by decide,if_true,z0k (show i.length≤1000 by omega),Xu,i1,i2,w,hs,gl];exact z0c ⟨by show (0:Int)≤3; omega,by show (3:Int) < 8; omega⟩ rfl
 ·simp only [YB,b2,hv,Qb,Bool.not_true,j5,if_false,show ¬ ((3:Int)=1) by decide,show ¬ ((3:Int)=2) by decide,if_true,app0_ok (show i.length≤1000 by omega),k2,n1,i1,i2,w,hs,gl]
 ·rw [n1];refine vld_of (by rw [z0j]; omega) fun k hk=>?_
  rw [getD_set (l:=i) (j:=j) (hl ▸ hj)];by_cases hkj:k=j
  ·rw [if_pos hkj,hkj]; obtain ⟨ga,gb⟩:=g; show 0≤sh.getD j 0 - 1 - i.getD j 0∧sh.getD j 0 - 1 - i.getD j 0 < sh.getD j 0; exact ⟨by omega,by omega⟩
  ·rw [if_neg hkj]; exact z0m hv k hk
end
section
variable {sh:List Int} {bu:Int} {st:List Int} {ax am:Int} {pe:List Int} {ks:List Qa} {i:List Int}
theorem Mod_ok {a b:Int} (ha:0≤a) (hb:1≤b):Jr (a,b)=some (a % b):=by
 have h:=Int.emod_nonneg a (show b≠0 by omega);simp only [Jr,show ¬ b≤0 by omega,if_false,remM_ok ha hb,Qb,show ¬ a % b < 0 by omega]
theorem step4 (h:smC ⟨4,sh,bu,st,ax,am,pe,ks⟩) (hn:nodeF ⟨4,sh,bu,st,ax,am,pe,ks⟩) (hi:i.length≤40) (hv:vld sh i=true):stepPj ⟨4,sh,bu,st,ax,am,pe,ks⟩ i:=by
 obtain ⟨f1,f2,f3,f4,f5⟩:=smC_f h;simp only at f1 f2 f3 f4 f5;obtain ⟨kid,hk⟩:=kids_one (c:=⟨4,sh,bu,st,ax,am,pe,ks⟩) (by rw [hn.kids]; simp);simp only at hk;subst hk;obtain ⟨n1,n2,n3⟩:=hn.rev (Or.inr rfl) kid [] rfl;obtain ⟨m1,m2⟩:=hn.rot rfl;have n1:kid.shape=sh:=n1;have n2:0≤ax:=n2;have n3:ax < (sh.length:Int):=n3;have m1:0≤am:=m1;have m2:am=0∨am < sh.getD ax.toNat 0:=m2;have hl:=z0l hv;obtain ⟨c1,c2,c3⟩:=z0a hn.chk;simp only at c1 c2 c3;obtain ⟨j,rfl⟩:=jZ n2;have hj:j < sh.length:=by omega
 have g:=z0m hv j hj;have m2:am=0∨am < sh.getD j 0:=by simpa using m2
 have d:sh.getD j 0≤65536:=by
  rw [jA,jB hj];exact (c3 _ (z0 _)).2
 have i1:idx sh (j:Int)=some (sh.getD j 0):=by rw [z0e n2 n3]; simp
 have i2:idx i (j:Int)=some (i.getD j 0):=by rw [z0e (l:=i) n2 zV]; simp
 have w:W (i.getD j 0+am)=i.getD j 0+am:=W_ok zV zV;have b1:=z0f sh i (Sm_of (show i.length≤1000 by omega));have b2:=z0g sh i (Sm_of (show sh.length≤1000 by omega));have hM:=Mod_ok (a:=i.getD j 0+am) (b:=sh.getD j 0) zV zV;have hR:=remM_ok (a:=i.getD j 0+am) (b:=sh.getD j 0) zV zV;have r1:=Int.emod_nonneg (i.getD j 0+am) (show sh.getD j 0≠0 by omega);have r2:=Int.emod_lt_of_pos (i.getD j 0+am) (show 0 < sh.getD j 0 by omega);have hs:setM i (j:Int) ((i.getD j 0+am) % sh.getD j 0)=some (i.set j ((i.getD j 0+am) % sh.getD j 0)):=z0i zV;have k2:idx [kid] 0=some kid:=rfl;have gl:QS ((i.set j ((i.getD j 0+am) % sh.getD j 0)).length=i.length)=some ():=z0b z0j
 refine ⟨0,i.set j ((i.getD j 0+am) % sh.getD j 0),true,(stepF_v (show (4:Int)≠1 by decide) hv).trans ((stepV4 rfl).trans (by show (0,i.set j ((i.getD j 0+am) % kid.shape.getD j 0),true)=_; rw [n1])),?_,?_,by rw [z0j]; omega,fun _=>⟨kid,rfl,?_,by rw [n1]; omega⟩⟩
 ·simp only [conv,convs,YK,b1,hv,Qb,jN,if_false,show ¬ ((4:Int)=0) by decide,show ¬ ((4:Int)=1) by decide,show ¬ ((4:Int)=2) by decide,show ¬ ((4:Int)=3) by decide,if_true,z0k (show i.length≤1000 by omega),XO,i1,i2,w,hM,hs,gl];exact z0c ⟨by show (0:Int)≤4; omega,by show (4:Int) < 8; omega⟩ rfl
 ·simp only [YB,b2,hv,Qb,Bool.not_true,j5,if_false,show ¬ ((4:Int)=1) by decide,show ¬ ((4:Int)=2) by decide,show ¬ ((4:Int)=3) by decide,if_true,app0_ok (show i.length≤1000 by omega),k2,n1,i1,i2,w,hR,hs,gl]
 ·rw [n1];refine vld_of (by rw [z0j]; omega) fun k hk=>?_
  rw [getD_set (l:=i) (j:=j) (hl ▸ hj)];by_cases hkj:k=j
  ·rw [if_pos hkj,hkj]; exact ⟨r1,r2⟩
  ·rw [if_neg hkj]; exact z0m hv k hk
theorem pick_len {l p:List Int}:(pick l p).length=p.length:=by simp [pick]
theorem pick_get {l p:List Int} {k:Nat} (h:k < p.length):(pick l p).getD k 0=l.getD (p.getD k 0).toNat 0:=by simp [pick,h]
theorem step5 (h:smC ⟨5,sh,bu,st,ax,am,pe,ks⟩) (hn:nodeF ⟨5,sh,bu,st,ax,am,pe,ks⟩) (hks:∀ k∈ks,nodeF k) (hi:i.length≤40) (hv:vld sh i=true):stepPj ⟨5,sh,bu,st,ax,am,pe,ks⟩ i:=by
 obtain ⟨f1,f2,f3,f4,f5⟩:=smC_f h;simp only at f1 f2 f3 f4 f5;obtain ⟨kid,hk⟩:=kids_one (c:=⟨5,sh,bu,st,ax,am,pe,ks⟩) (by rw [hn.kids]; simp);simp only at hk;subst hk;obtain ⟨n1,n2⟩:=hn.tra rfl kid [] rfl;have n1:pe.length=kid.shape.length:=n1;obtain ⟨c1,c2,c3⟩:=z0a (hks kid zX).chk;have n2:∀ j,j < kid.shape.length→0≤pe.getD j 0∧pe.getD j 0 < (sh.length:Int)∧sh.getD (pe.getD j 0).toNat 0≤kid.shape.getD j 0:=n2 fun n hm=>(c3 n hm).1
 have hl:=z0l hv
 have hp:∀ x∈pe,0≤x∧x < (i.length:Int):=fun x hx=>by
  obtain ⟨k,hk,e⟩:=List.getElem_of_mem hx;have:=n2 k zV;rw [jA,jB hk] at this;simp only [Option.getD_some,e] at this;exact ⟨this.1,by omega⟩
 have e1:=rTr_L2 kid ⟨5,sh,bu,st,ax,am,pe,[kid]⟩ i i hp kid.shape pe [] [] [] rfl rfl n1.symm rfl zW rfl;have e2:=gTr_L1 i 5 sh bu st ax am [conv kid] pe [] [] hp zW rfl;simp only [jP,jK,jI] at e1 e2;have b1:=z0f sh i (Sm_of (show i.length≤1000 by omega));have b2:=z0g sh i (Sm_of (show sh.length≤1000 by omega));have k2:idx [kid] 0=some kid:=rfl;refine ⟨0,pick i pe,true,(stepF_v (show (5:Int)≠1 by decide) hv).trans (stepV5 rfl),?_,?_,by rw [pick_len]; omega,fun _=>⟨kid,rfl,?_,by omega⟩⟩
 ·simp only [conv,convs,YK,b1,hv,Qb,jN,if_false,show ¬ ((5:Int)=0) by decide,show ¬ ((5:Int)=1) by decide,show ¬ ((5:Int)=2) by decide,show ¬ ((5:Int)=3) by decide,show ¬ ((5:Int)=4) by decide,if_true,z0k (show i.length≤1000 by omega),Xc,e2];exact z0c ⟨by show (0:Int)≤5; omega,by show (5:Int) < 8; omega⟩ rfl
 ·simp only [YB,b2,hv,Qb,Bool.not_true,j5,if_false,show ¬ ((5:Int)=1) by decide,show ¬ ((5:Int)=2) by decide,show ¬ ((5:Int)=3) by decide,show ¬ ((5:Int)=4) by decide,if_true,app0_ok (show i.length≤1000 by omega),k2,e1]
 ·refine vld_of (by rw [pick_len]; omega) fun k hk=>?_
  rw [pick_get zV];have a:=n2 k hk;have b:=z0m hv (pe.getD k 0).toNat zV;exact ⟨b.1,by omega⟩
end
theorem getD_le {l:List Int} {k:Nat} (h:∀ n∈l,0≤n∧n≤65536) (hk:k < l.length):0≤l.getD k 0∧l.getD k 0≤65536:=by
 rw [jA,jB hk];exact h _ (z0 _)
section
variable {sh:List Int} {bu:Int} {st:List Int} {ax am:Int} {pe:List Int} {ks:List Qa} {i:List Int}
theorem step7 (h:smC ⟨7,sh,bu,st,ax,am,pe,ks⟩) (hn:nodeF ⟨7,sh,bu,st,ax,am,pe,ks⟩) (hks:∀ k∈ks,nodeF k) (hi:i.length≤40) (hv:vld sh i=true):stepPj ⟨7,sh,bu,st,ax,am,pe,ks⟩ i:=by
 obtain ⟨f1,f2,f3,f4,f5⟩:=smC_f h;simp only at f1 f2 f3 f4 f5;obtain ⟨a,b,hk⟩:=kids_two (c:=⟨7,sh,bu,st,ax,am,pe,ks⟩) (by rw [hn.kids]; simp);simp only at hk;subst hk;obtain ⟨n1,n2,n3,n4,n5⟩:=hn.cat rfl a b [] rfl;have n2:a.shape.length=sh.length:=n2;have n3:0≤ax:=n3;have n4:ax < (a.shape.length:Int):=n4;have n5:∀ j,j < a.shape.length→catA ax sh a.shape b.shape j:=n5;obtain ⟨c1,c2,c3⟩:=z0a (hks a zX).chk;obtain ⟨d1,d2,d3⟩:=z0a (hks b zX).chk;have hl:=z0l hv;obtain ⟨j,rfl⟩:=jZ n3;have hj:j < a.shape.length:=by omega
 have g:=z0m hv j zV;have ga:=getD_le c3 hj;have gb:=getD_le d3 (show j < b.shape.length by omega);have gs:sh.getD j 0=a.shape.getD j 0+b.shape.getD j 0:=by rw [(n5 j hj).1 rfl,W_ok zV zV]
 have i1:idx a.shape (j:Int)=some (a.shape.getD j 0):=by rw [z0e (l:=a.shape) n3 n4]; simp
 have i2:idx i (j:Int)=some (i.getD j 0):=by rw [z0e (l:=i) n3 zV]; simp
 have b1:=z0f sh i (Sm_of (show i.length≤1000 by omega));have b2:=z0g sh i (Sm_of (show sh.length≤1000 by omega));have k1:idx [conv a,conv b] 0=some (conv a):=rfl;have k2:idx [a,b] 0=some a:=rfl;by_cases hlt:i.getD j 0 < a.shape.getD j 0
 ·have gl:QS (i.length=i.length)=some ():=z0b rfl;refine ⟨0,i,true,(stepF_v (show (7:Int)≠1 by decide) hv).trans ((stepV7 rfl).trans (if_pos hlt)),?_,?_,by omega,fun _=>⟨a,rfl,?_,by omega⟩⟩
  ·simp only [conv,convs,YK,b1,hv,Qb,jN,if_false,show ¬ ((7:Int)=0) by decide,show ¬ ((7:Int)=1) by decide,show ¬ ((7:Int)=2) by decide,show ¬ ((7:Int)=3) by decide,show ¬ ((7:Int)=4) by decide,show ¬ ((7:Int)=5) by decide,show ¬ ((7:Int)=6) by decide,if_true,z0k (show i.length≤1000 by omega),YG,k1,conv_shape,i1,i2,hlt];exact z0c ⟨by show (0:Int)≤7; omega,by show (7:Int) < 8; omega⟩ (z0c trivial rfl)
  ·simp only [YB,b2,hv,Qb,Bool.not_true,j5,if_false,show ¬ ((7:Int)=1) by decide,show ¬ ((7:Int)=2) by decide,show ¬ ((7:Int)=3) by decide,show ¬ ((7:Int)=4) by decide,show ¬ ((7:Int)=5) by decide,show ¬ ((7:Int)=6) by decide,if_true,app0_ok (show i.length≤1000 by omega),k2,i1,i2,show ¬ (i.getD j 0≥a.shape.getD j 0) by omega]
  ·refine vld_of zV fun k hk=>?_
   have v:=z0m hv k zV;by_cases hkj:k=j
   ·subst hkj; exact ⟨v.1,hlt⟩
   ·have e:=((n5 k hk).2 zV).2;exact ⟨v.1,by omega⟩
 ·have w:W (i.getD j 0 - a.shape.getD j 0)=i.getD j 0 - a.shape.getD j 0:=W_ok zV zV;have hs:setM i (j:Int) (i.getD j 0 - a.shape.getD j 0)=some (i.set j (i.getD j 0 - a.shape.getD j 0)):=z0i zV;refine ⟨1,i.set j (i.getD j 0 - a.shape.getD j 0),true,(stepF_v (show (7:Int)≠1 by decide) hv).trans ((stepV7 rfl).trans (if_neg hlt)),?_,?_,by rw [z0j]; omega,fun _=>⟨b,rfl,?_,by omega⟩⟩
  ·simp only [conv,convs,YK,b1,hv,Qb,jN,if_false,show ¬ ((7:Int)=0) by decide,show ¬ ((7:Int)=1) by decide,show ¬ ((7:Int)=2) by decide,show ¬ ((7:Int)=3) by decide,show ¬ ((7:Int)=4) by decide,show ¬ ((7:Int)=5) by decide,show ¬ ((7:Int)=6) by decide,if_true,z0k (show i.length≤1000 by omega),YG,k1,conv_shape,i1,i2,hlt,w,hs];exact z0c ⟨by show (0:Int)≤7; omega,by show (7:Int) < 8; omega⟩ (z0c z0j rfl)
  ·simp only [YB,b2,hv,Qb,Bool.not_true,j5,if_false,show ¬ ((7:Int)=1) by decide,show ¬ ((7:Int)=2) by decide,show ¬ ((7:Int)=3) by decide,show ¬ ((7:Int)=4) by decide,show ¬ ((7:Int)=5) by decide,show ¬ ((7:Int)=6) by decide,if_true,app0_ok (show i.length≤1000 by omega),k2,i1,i2,show (i.getD j 0≥a.shape.getD j 0) by omega,w,hs];exact z0c z0j rfl
  ·refine vld_of (by rw [z0j]; omega) fun k hk=>?_
   rw [getD_set (l:=i) (j:=j) zV];by_cases hkj:k=j
   ·rw [if_pos hkj,hkj]; exact ⟨by omega,by omega⟩
   ·rw [if_neg hkj];have v:=z0m hv k zV;have e:=(n5 k zV).2 zV;exact ⟨v.1,by omega⟩
end
section
variable {sh:List Int} {bu:Int} {st:List Int} {ax am:Int} {pe:List Int} {ks:List Qa} {i:List Int}
theorem step6 (h:smC ⟨6,sh,bu,st,ax,am,pe,ks⟩) (hn:nodeF ⟨6,sh,bu,st,ax,am,pe,ks⟩) (hks:∀ k∈ks,nodeF k) (hi:i.length≤40) (hv:vld sh i=true):stepPj ⟨6,sh,bu,st,ax,am,pe,ks⟩ i:=by
 obtain ⟨f1,f2,f3,f4,f5⟩:=smC_f h;simp only at f1 f2 f3 f4 f5;obtain ⟨kid,hk⟩:=kids_one (c:=⟨6,sh,bu,st,ax,am,pe,ks⟩) (by rw [hn.kids]; simp);simp only at hk;subst hk;have hc:=(hks kid zX).chk;obtain ⟨c1,c2,c3⟩:=z0a hc;have hcs:checkR sh=0:=hn.chk;obtain ⟨e1,e2,e3⟩:=z0a hcs;have hl:=z0l hv;obtain ⟨r1,r2⟩:=z0d hv;have hK:Sm kid.shape.length:=Sm_of (show kid.shape.length≤1000 by omega);have b1:=z0f sh i (Sm_of (show i.length≤1000 by omega));have b2:=z0g sh i (Sm_of (show sh.length≤1000 by omega));have k1:idx [conv kid] 0=some (conv kid):=rfl;have k2:idx [kid] 0=some kid:=rfl;have hce:cellsR kid.shape=prodI kid.shape:=by rw [cellsR,if_pos hc]
 by_cases hz:prodI kid.shape=0
 ·have hM:Jr (dotp sh i,0)=some 0:=rfl
  have hI:Jb (kid.shape,0)=some ([],false):=by
   simp only [Jb,show ¬ ((0:Int) < 0) by decide,if_false,gCells_ok _ hK,hce,hz,Qb]; rfl
  refine ⟨0,[],false,(stepF_v (show (6:Int)≠1 by decide) hv).trans ((stepV6 rfl).trans (if_pos hz)),?_,?_,by simp,fun h=>by cases h⟩
  ·simp only [conv,convs,YK,b1,hv,Qb,jN,if_false,show ¬ ((6:Int)=0) by decide,show ¬ ((6:Int)=1) by decide,show ¬ ((6:Int)=2) by decide,show ¬ ((6:Int)=3) by decide,show ¬ ((6:Int)=4) by decide,show ¬ ((6:Int)=5) by decide,if_true,z0k (show i.length≤1000 by omega),YN,gOffset_ok hv hcs,k1,conv_shape,gCells_ok _ hK,hce,hz,hM,hI];exact z0c ⟨by show (0:Int)≤6; omega,by show (6:Int) < 8; omega⟩ rfl
  ·simp only [YB,b2,hv,Qb,Bool.not_true,j5,if_false,show ¬ ((6:Int)=1) by decide,show ¬ ((6:Int)=2) by decide,show ¬ ((6:Int)=3) by decide,show ¬ ((6:Int)=4) by decide,show ¬ ((6:Int)=5) by decide,if_true,app0_ok (show i.length≤1000 by omega),k2,Cells_ok _ hK,hce,hz]
 ·have hpos:∀ n∈kid.shape,1≤n:=fun n hm=>by
   have:=c3 n hm;have h0:n≠0:=fun e=>hz (prodI_zero (e ▸ hm))
   omega
  have hp:=prodI_pos hpos;have o1:=Int.emod_nonneg (dotp sh i) (show prodI kid.shape≠0 from hz);have o2:=Int.emod_lt_of_pos (dotp sh i) (show 0 < prodI kid.shape by omega);have hM:=Mod_ok r1 hp;have hR:=remM_ok r1 hp;have hI:=gIndex_ok hc hpos o1 o2;have hJ:=rIndex_ok (show kid.shape.length≤1000 by omega) hpos o1 o2 zV;refine ⟨0,dig kid.shape (dotp sh i % prodI kid.shape),true,(stepF_v (show (6:Int)≠1 by decide) hv).trans ((stepV6 rfl).trans (if_neg hz)),?_,?_,by rw [dig_len]; omega,fun _=>⟨kid,rfl,vld_dig hpos o1 o2,by omega⟩⟩
  ·simp only [conv,convs,YK,b1,hv,Qb,jN,if_false,show ¬ ((6:Int)=0) by decide,show ¬ ((6:Int)=1) by decide,show ¬ ((6:Int)=2) by decide,show ¬ ((6:Int)=3) by decide,show ¬ ((6:Int)=4) by decide,show ¬ ((6:Int)=5) by decide,if_true,z0k (show i.length≤1000 by omega),YN,gOffset_ok hv hcs,k1,conv_shape,gCells_ok _ hK,hce,hM,hI];exact z0c ⟨by show (0:Int)≤6; omega,by show (6:Int) < 8; omega⟩ rfl
  ·simp only [YB,b2,hv,Qb,Bool.not_true,j5,if_false,show ¬ ((6:Int)=1) by decide,show ¬ ((6:Int)=2) by decide,show ¬ ((6:Int)=3) by decide,show ¬ ((6:Int)=4) by decide,show ¬ ((6:Int)=5) by decide,if_true,app0_ok (show i.length≤1000 by omega),k2,Cells_ok _ hK,hce,hz,rOffset_ok hv e2 (Sm_of (show sh.length≤1000 by omega)),hR,hJ]
end
theorem step_ok:∀ (c:Qa) (i:List Int),smC c→nodeF c→(∀ k∈c.kids,nodeF k)→i.length≤40→stepPj c i
 | ⟨kd,sh,bu,st,ax,am,pe,ks⟩,i,h,hn,hks,hi=>by
  obtain ⟨f1,f2,f3,f4,f5⟩:=smC_f h;have f1:sh.length≤40:=f1;have b1:=z0f sh i (Sm_of (show i.length≤1000 by omega));have b2:=z0g sh i (Sm_of (show sh.length≤1000 by omega));obtain ⟨q1,q2⟩:=hn.kind;have q1:1≤kd:=q1;have q2:kd≤7:=q2;cases hv:vld sh i with
  | false =>
   refine ⟨0,[],false,by simp [stepF,hv],?_,?_,by simp,fun h=>by cases h⟩
   ·simp only [conv,YK,b1,hv,Qb,if_true]
   ·by_cases h1:kd=1
    ·simp only [YB,h1,if_true,Qb]
    ·simp only [YB,h1,if_false,b2,hv,Qb,Bool.not_false,if_true]
  | true =>
   have hc:kd=1∨kd=2∨kd=3∨kd=4∨kd=5∨kd=6∨kd=7:=by omega
   rcases hc with rfl|rfl|rfl|rfl|rfl|rfl|rfl
   ·refine ⟨0,[],false,by simp [stepF],?_,?_,by simp,fun h=>by cases h⟩
    ·simp only [conv,YK,b1,hv,Qb,jN,if_false,show ¬ ((1:Int)=0) by decide,if_true,z0k (show i.length≤1000 by omega),Qal];exact z0c ⟨by show (0:Int)≤1; omega,by show (1:Int) < 8; omega⟩ rfl
    ·simp only [YB,if_true,Qb]
   ·exact step2 h hn hi hv
   ·exact step3 h hn hi hv
   ·exact step4 h hn hi hv
   ·exact step5 h hn hks hi hv
   ·exact step6 h hn hks hi hv
   ·exact step7 h hn hks hi hv
theorem app_le {α:Type} {b:Nat} {l es:List α} (h:l.length+es.length≤100000000) (hb:b≤1000):app b l es=some (l++es):=app_ok (by
 have h1:(l.length+es.length) * b≤100000000 * 1000:=Nat.mul_le_mul h hb;have h2:100000000 * 1000≤room:=by decide +kernel
 omega)
def rowI (n:Int) (a:List Int):List (List Int):=(List.range n.toNat).map fun (k:Nat)=>a++[(k:Int)]
def extI (out:List (List Int)) (n:Int):List (List Int):=out.flatMap (rowI n)
def allL:List Int→List (List Int)
 | []=>[[]]
 | n::s=>(List.range n.toNat).flatMap fun (k:Nat)=>(allL s).map ((k:Int)::·)
theorem foldl_ext:∀ (s:List Int) (out:List (List Int)),s.foldl extI out=out.flatMap fun a=>(allL s).map (a++·)
 | [],out=>by
  simp only [List.foldl_nil,allL,zK,jT,List.map_nil];induction out with
  | nil=>rfl
  | cons a o ih=>rw [List.flatMap_cons,← ih]; rfl
 | n::s,out=>by
  rw [List.foldl_cons,foldl_ext s,extI,List.flatMap_assoc];congr 1
  funext a
  rw [rowI,List.flatMap_map,allL,List.map_flatMap];congr 1
  funext k
  rw [z7];congr 1
  funext x
  simp
theorem allI_eq (s:List Int):s.foldl extI [[]]=allL s:=by rw [foldl_ext]; simp
def pm:List Int→Nat
 | []=>1
 | n::s=>max n.toNat 1 * pm s
theorem pm_pos:∀ s:List Int,1≤pm s
 | []=>j6 _
 | n::s=>by
  have:=pm_pos s;rw [pm];exact Nat.mul_le_mul (show 1≤max n.toNat 1 by omega) this
theorem rowI_len (n:Int) (a:List Int):(rowI n a).length=n.toNat:=by simp [rowI]
theorem extI_len (n:Int):∀ out:List (List Int),(extI out n).length=out.length * n.toNat
 | []=>by simp [extI]
 | a::o=>by
  have:=extI_len n o;unfold extI at this ⊢;rw [List.flatMap_cons,jU,rowI_len,this,z8,Nat.add_mul,Nat.one_mul]; omega
theorem all_L3 (p:List Int) (i:Nat) (n:Int) (hi:idx p (i:Int)=some n) (out:List (List Int)) (k:Nat) (a:List Int) (hk:idx out (k:Int)=some a) (ha:a.length≤1000) (base:List (List Int)) :
  ∀ (m j:Nat),j+m=n.toNat→base.length+n.toNat≤1000000→XD (p,(i:Int),out,(k:Int),base++((List.range j).map fun (x:Nat)=>a++[(x:Int)]),(j:Int))=some (base++rowI n a)
 | 0,j,h1,h2=>by
  rw [XD]
  have:¬ ((j:Int) < n):=by omega
  simp only [hi,Qb,this,if_false];rw [rowI,← h1]; rfl
 | m+1,j,h1,h2=>by
  rw [XD];have ht:((j:Int) < n):=by omega
  have ih:=all_L3 p i n hi out k a hk ha base m (j+1) zV h2;have w:W ((j:Int)+1)=((j+1:Nat):Int):=W_succ zV;have a1:app 8 ([]:List Int) a=some a:=by rw [app_le zW zV]; rfl
  have a2:app 8 a [(j:Int)]=some (a++[(j:Int)]):=app_le zW zV
  have a3:app 24 (base++((List.range j).map fun (x:Nat)=>a++[(x:Int)])) [a++[(j:Int)]]=some (base++((List.range (j+1)).map fun (x:Nat)=>a++[(x:Int)])):=by
   rw [app_le zW zV,List.range_succ]; simp
  simp only [hi,Qb,ht,if_true,hk,a1,a2,a3,w,ih]
theorem all_L2 (p:List Int) (i:Nat) (n:Int) (hi:idx p (i:Int)=some n):∀ (s q:List (List Int)),(∀ a∈s,a.length≤1000)→((q++s).length+1) * (max n.toNat 1)≤1000000 →
  Xf (q++s,p,(i:Int),extI q n,(q.length:Int))=some (extI (q++s) n)
 | [],q,h1,h2=>by
  rw [Xf]; simp only [jT,Int.lt_irrefl,if_false]
 | a::s,q,h1,h2=>by
  rw [Xf];have hm:(q++a::s).length+1≤1000000:=jV (Nat.le_mul_of_pos_right _ zV) h2
  have hb:(extI q n).length+n.toNat≤1000000:=by
   rw [extI_len];have e1:q.length * n.toNat+n.toNat=(q.length+1) * n.toNat:=by rw [Nat.add_mul,Nat.one_mul]
   rw [e1];refine jV (Nat.mul_le_mul ?_ ?_) h2
   ·simp
   ·omega
  have e:=all_L3 p i n hi (q++a::s) q.length a Qz (h1 a (jL ..)) (extI q n) n.toNat 0 zV hb;have ih:=all_L2 p i n hi s (q++[a]) (fun x hx=>h1 x (jF _ hx)) (by rw [← Qt]; exact h2);rw [← Qt] at ih;simp only [List.range_zero,List.map_nil,jT,jI] at e;have ee:extI (q++[a]) n=extI q n++rowI n a:=by unfold extI; rw [List.flatMap_append]; simp
  simp only [QN,if_true,e,Qb,mid_W (Sm_of (show (q++a::s).length≤1000000 by omega)),← ee,ih]
theorem mem_ext_len {out:List (List Int)} {n:Int} {m:Nat} (h:∀ a∈out,a.length=m):∀ a∈extI out n,a.length=m+1:=fun a ha=>by
 unfold extI at ha;obtain ⟨b,hb,hc⟩:=List.mem_flatMap.1 ha;unfold rowI at hc;obtain ⟨k,_,rfl⟩:=List.mem_map.1 hc;simp [h b hb]
theorem all_L1:∀ (s p:List Int) (out:List (List Int)),(p++s).length≤900→(∀ a∈out,a.length=p.length)→(out.length+1) * pm s≤500000→Xe (p++s,out,(p.length:Int))=some (s.foldl extI out)
 | [],p,out,hs,h1,h2=>by
  rw [Xe]; simp only [Ze,if_false,List.foldl_nil]
 | n::s,p,out,hs,h1,h2=>by
  rw [Xe];have hp:=pm_pos s;rw [pm,← Nat.mul_assoc] at h2;have b1:(out.length+1) * max n.toNat 1≤500000:=jV (Nat.le_mul_of_pos_right _ hp) h2;have e:Xf (out,p++n::s,(p.length:Int),[],0)=some (extI out n):=all_L2 (p++n::s) p.length n Qz out [] (fun a ha=>by have:=h1 a ha; simp at hs; omega) (jV b1 zV)
  have ih:=all_L1 s (p++[n]) (extI out n) (by rw [← Qt]; exact hs) (fun a ha=>by rw [mem_ext_len h1 a ha]; simp) (by
   refine jV (Nat.mul_le_mul_right _ ?_) h2;rw [extI_len,Nat.add_mul,Nat.one_mul];have:=Nat.mul_le_mul_left out.length (show n.toNat≤max n.toNat 1 by omega);omega)
  rw [← Qt] at ih;simp only [QN,if_true,e,Qb,mid_W (Sm_of hs),ih,List.foldl_cons]
theorem All_ok {s:List Int} (hs:s.length≤900) (h:pm s≤250000):Qcg s=some (allL s):=by
 have e:Xe (s,[[]],0)=some (s.foldl extI [[]]):=all_L1 s [] [[]] hs zX (by simpa using by omega);simp only [Qcg,e,Qb,allI_eq]
theorem mem_allL:∀ {s x:List Int},x∈allL s↔vld s x=true
 | [],x=>by
  cases x with
  | nil=>simp [allL,vld]
  | cons a x=>simp [allL,vld]
 | n::s,x=>by
  rw [allL,List.mem_flatMap];constructor
  ·rintro ⟨k,hk,h⟩
   obtain ⟨y,hy,rfl⟩:=List.mem_map.1 h;have:=List.mem_range.1 hk;simp only [vld,jD,z4];exact ⟨by omega,mem_allL.1 hy⟩
  ·intro h;cases x with
   | nil=>cases h
   | cons a x =>
    simp only [vld,jD,z4] at h;refine ⟨a.toNat,List.mem_range.2 zV,List.mem_map.2 ⟨x,mem_allL.2 h.2,?_⟩⟩;rw [Int.toNat_of_nonneg h.1.1]
theorem nodup_flat:∀ (m:Nat) (l:List (List Int)),l.Nodup→((List.range m).flatMap fun (k:Nat)=>l.map ((k:Int)::·)).Nodup
 | 0,l,h=>by simp
 | m+1,l,h=>by
  rw [List.range_succ,List.flatMap_append,List.nodup_append];refine ⟨nodup_flat m l h,?_,?_⟩
  ·simp only [List.flatMap_cons,List.flatMap_nil,jT];refine List.Pairwise.map _ (fun a b hab=>?_) h;intro e;exact hab (List.cons.inj e).2
  ·intro a ha b hb e;subst e;obtain ⟨k,hk,h1⟩:=List.mem_flatMap.1 ha;obtain ⟨k2,hk2,h2⟩:=List.mem_flatMap.1 hb;obtain ⟨y,_,rfl⟩:=List.mem_map.1 h1;obtain ⟨y2,_,e2⟩:=List.mem_map.1 h2;have e3:=(List.cons.inj e2).1;have:=List.mem_range.1 hk
   have:k2=m:=by simpa using hk2
   omega
theorem allL_nodup:∀ s:List Int,(allL s).Nodup
 | []=>by simp [allL]
 | n::s=>by rw [allL]; exact nodup_flat _ _ (allL_nodup s)
theorem flat_len {α:Type} (f:Nat→List α) (c:Nat) (h:∀ k,(f k).length=c):∀ m:Nat,((List.range m).flatMap f).length=m * c
 | 0=>by simp
 | m+1=>by rw [List.range_succ,List.flatMap_append,jU,flat_len f c h m]; simp [h,Nat.add_mul]
theorem allL_len:∀ {s:List Int},(∀ n∈s,0≤n)→((allL s).length:Int)=prodI s
 | [],_=>by simp [allL,prodI]
 | n::s,h=>by
  have ih:=allL_len (s:=s) fun m hm=>h m (jF _ hm)
  have h0:=h n (jL ..);rw [allL,flat_len _ (allL s).length (fun k=>by simp),Int.natCast_mul,ih,prodI_cons,Int.toNat_of_nonneg h0]
theorem flat_get {α:Type} (f:Nat→List α) (c:Nat) (h:∀ k,(f k).length=c) (hc:1≤c):∀ (m j:Nat),j < m * c→((List.range m).flatMap f)[j]? = (f (j / c))[j % c]?
 | 0,j,hj=>by simp at hj
 | m+1,j,hj=>by
  rw [List.range_succ,List.flatMap_append,jS];have hl:=flat_len f c h m;rw [hl];by_cases hlt:j < m * c
  ·rw [if_pos hlt]; exact flat_get f c h hc m j hlt
  ·rw [if_neg hlt];have e1:j / c=m:=Nat.div_eq_of_lt_le zV zV
   have e2:j % c=j - m * c:=by
    have:=Nat.div_add_mod j c;rw [e1,Nat.mul_comm] at this;omega
   rw [e1,e2]; simp
theorem allL_get:∀ {s:List Int},(∀ n∈s,1≤n)→∀ j:Nat,(j:Int) < prodI s→(allL s)[j]? = some (dig s (j:Int))
 | [],_,j,hj=>by
  have:j=0:=by simp [prodI] at hj; omega
  subst this; rfl
 | n::s,h,j,hj=>by
  have hs:∀ m∈s,1≤m:=fun m hm=>h m (jF _ hm)
  have h0:=h n (jL ..);have hl:=allL_len (s:=s) fun m hm=>by have:=hs m hm; omega
  have hp:=prodI_pos hs;rw [prodI_cons] at hj;have hc:1≤(allL s).length:=by omega
  have hj2:j < n.toNat * (allL s).length:=by
   have:((n.toNat * (allL s).length:Nat):Int)=n * prodI s:=by rw [Int.natCast_mul,hl,Int.toNat_of_nonneg zV]
   omega
  rw [allL,flat_get _ (allL s).length (fun k=>by simp) hc _ _ hj2,jC];have hm:((j % (allL s).length:Nat):Int)=(j:Int) % prodI s:=by rw [Int.natCast_emod,hl]
  have hd:((j / (allL s).length:Nat):Int)=(j:Int) / prodI s:=by rw [Int.natCast_ediv,hl]
  rw [allL_get hs (j % (allL s).length) (by rw [hm]; exact Int.emod_lt_of_pos _ zV),jM,hm,hd,dig]
theorem dig_dotp:∀ {s x:List Int},vld s x=true→dig s (dotp s x)=x
 | [],[],_=>rfl
 | n::s,a::x,h=>by
  simp only [vld,jD,z4] at h;obtain ⟨r1,r2⟩:=z0d h.2;have hp:0 < prodI s:=by omega
  rw [dotp,dig]
  have e1:(a * prodI s+dotp s x) / prodI s=a:=by
   rw [Int.add_comm,Int.add_mul_ediv_right _ _ zV,Int.ediv_eq_zero_of_lt r1 r2,Int.zero_add]
  have e2:(a * prodI s+dotp s x) % prodI s=dotp s x:=by
   rw [Int.add_comm,Int.add_mul_emod_self_right,Int.emod_eq_of_lt r1 r2]
  rw [e1,e2,dig_dotp h.2]
 | [],_::_,h=>by cases h
 | _::_,[],h=>by cases h
theorem pm_pmI:∀ s:List Int,((pm s:Nat):Int)=pmI s
 | []=>rfl
 | n::s=>by
  rw [pm,pmI,Int.natCast_mul,pm_pmI s];congr 1;split <;> omega
theorem small_pm {m:Int} {s:List Int} (h:smallS m s) (hm:1≤m):(pm s:Int)≤100 * m:=by
 rcases h.2.2.2 with rfl|h
 ·simp [pm]; omega
 ·rw [pm_pmI]; exact h
theorem small_All {m:Int} {s:List Int} (h:smallS m s) (hm:1≤m∧m≤2500):Qcg s=some (allL s):=All_ok (by have:=h.1; omega) (by have:=small_pm h hm.1; omega)
theorem etaCj (d:Qh):(⟨d.kind,d.shape,d.buffer,d.starts,d.axis,d.amount,d.perm,d.kids⟩:Qh)=d:=by cases d; rfl
theorem etaRj (c:Qa):(⟨c.kind,c.shape,c.buffer,c.starts,c.axis,c.amount,c.perm,c.kids⟩:Qa)=c:=by cases c; rfl
theorem convF (c:Qa):(conv c).kind=c.kind∧(conv c).shape=c.shape∧(conv c).buffer=c.buffer∧(conv c).kids=convs c.kids:=by
 cases c; exact ⟨rfl,rfl,rfl,rfl⟩
theorem convs_map:∀ l:List Qa,convs l=l.map conv
 | []=>rfl
 | k::ks=>by rw [convs,convs_map ks]; rfl
theorem idx_convs {l:List Qa} {k:Int} {kid:Qa} (h:idx l k=some kid):idx (convs l) k=some (conv kid):=by
 rw [convs_map];unfold idx at h ⊢;split at h
 ·rename_i h0; rw [if_pos h0,jC,h]; rfl
 ·cases h
theorem szC_mem:∀ {l:List Qa} {k:Qa},k∈l→szC k≤szCs l
 | x::l,k,h=>by
  rw [szCs];rcases List.mem_cons.1 h with rfl|h
  ·omega
  ·have:=szC_mem h; omega
theorem szC_f (c:Qa):szC c=1+szCs c.kids:=by cases c; rw [szC]
theorem idx_mem {α:Type} {l:List α} {k:Int} {a:α} (h:idx l k=some a):a∈l:=by
 unfold idx at h;split at h
 ·exact jE h
 ·cases h
def noC:Qa:=⟨0,[],0,[],0,0,[],[]⟩
def origF:Nat→Qa→List Int→Bool × Int × Int
 | 0,_,_=>(true,0,0)
 | n+1,c,i=>if c.kind=1 then (false,c.buffer,dotp c.shape i) else if (stepF c i).2.2=true then origF n (c.kids.getD (stepF c i).1.toNat noC) (stepF c i).2.1 else (true,0,0)
theorem idx_getd {α:Type} {l:List α} {k:Int} {a d:α} (h:idx l k=some a):l.getD k.toNat d=a:=by
 unfold idx at h;split at h
 ·rw [jA,h]; rfl
 ·cases h
theorem smC_kid {c kid:Qa} (h:smC c) (hk:kid∈c.kids):smC kid:=smCs_mem (smC_f h).2.2.2.2 kid hk
def origP (bs:List (List Int)) (c:Qa) (i:List Int) (t:Bool × Int × Int):Prop :=
 (∃ x1 x2 x3 x4 x5 x6 x7 x8,YS (c.kind,c.shape,c.buffer,c.starts,c.axis,c.amount,c.perm,convs c.kids,i)=some (x1,x2,x3,x4,x5,x6,x7,x8,t.1,t.2.1,t.2.2)) ∧
 Qbi (c,i)=some ⟨t.1,t.2.1,t.2.2⟩∧(t.1=false→∃ sh,idx bs t.2.1=some sh∧0≤t.2.2∧t.2.2 < prodI sh∧checkR sh=0)
theorem conv_eta (c:Qa):(⟨c.kind,c.shape,c.buffer,c.starts,c.axis,c.amount,c.perm,convs c.kids⟩:Qh)=conv c:=by cases c; rfl
theorem orig_L (bs:List (List Int)):∀ (n:Nat) (c:Qa) (i:List Int),szC c≤n→smC c→nodesF bs c→vld c.shape i=true→origP bs c i (origF n c i)
 | 0,c,i,hz,_,_,_=>by have:=szC_pos c; omega
 | n+1,c,i,hz,hs,hN,hv=>by
  obtain ⟨hn,hb,hk⟩:=z0h hN;have hsh:=(smC_f hs).1;have hl:=z0l hv;have hSh:Sm c.shape.length:=Sm_of (show c.shape.length≤1000 by omega);by_cases h1:c.kind=1
  ·have e:=gOffset_ok hv hn.chk;have e2:=rOffset_ok hv (z0a hn.chk).2.1 hSh;rw [origF,if_pos h1];refine ⟨⟨c.kind,c.shape,c.buffer,c.starts,c.axis,c.amount,c.perm,convs c.kids,?_⟩,?_,fun _=>⟨c.shape,hb h1,(z0d hv).1,(z0d hv).2,hn.chk⟩⟩
   ·rw [YS];simp only [h1,if_true,e,Qb] <;> rfl
   ·rw [Qbi];simp only [h1,if_true,e2,Qb]
  ·obtain ⟨k,l,ok,ef,es,er,hl2,hok⟩:=step_ok c i hs hn (fun k hm=>(z0h (hk k hm)).1) zV;rw [origF,if_neg h1,ef];cases ok with
   | false =>
    refine ⟨⟨c.kind,c.shape,c.buffer,c.starts,c.axis,c.amount,c.perm,convs c.kids,?_⟩,?_,fun h=>by cases h⟩
    ·rw [YS];simp only [h1,if_false,conv_eta,es,Qb,if_true] <;> rfl
    ·rw [Qbi];simp only [h1,if_false,etaRj,er,Qb,if_true] <;> rfl
   | true =>
    obtain ⟨kid,ik,vk,hkl⟩:=hok rfl;have hm:=idx_mem ik
    have hsz:szC kid≤n:=by
     have:=szC_mem hm;have:=szC_f c;omega
    obtain ⟨⟨x1,x2,x3,x4,x5,x6,x7,x8,ih1⟩,ih2,ih3⟩:=orig_L bs n kid l hsz (smC_kid hs hm) (hk kid hm) vk;obtain ⟨q1,q2,q3,q4⟩:=convF kid;have ec:conv kid=⟨kid.kind,kid.shape,kid.buffer,kid.starts,kid.axis,kid.amount,kid.perm,convs kid.kids⟩:=(conv_eta kid).symm;simp only [if_true,idx_getd ik];refine ⟨⟨x1,x2,x3,x4,x5,x6,x7,x8,?_⟩,?_,ih3⟩
    ·rw [YS];simp only [h1,if_false,conv_eta,es,Qb,jN,idx_convs ik];rw [ec];exact ih1
    ·rw [Qbi];simp only [h1,if_false,etaRj,er,Qb,jN,ik,ih2]
def cellP (t:Bool × Int × Int):XY:=⟨t.1,t.2.1,t.2.2⟩
def cellQ (t:Bool × Int × Int):QdN:=⟨t.1,t.2.1,t.2.2⟩
theorem pOrigin_ok {bs:List (List Int)} {c:Qa} {i:List Int} (hs:smC c) (hN:nodesF bs c) (hi:i.length≤1000):Qcx (conv c,i)=some (if vld c.shape i=true then (cellP (origF (szC c) c i),true) else (⟨false,0,0⟩,false)):=by
 obtain ⟨q1,q2,q3,q4⟩:=convF c;simp only [Qcx,q2,z0f c.shape i (Sm_of hi),Qb];cases hv:vld c.shape i with
 | false=>rfl
 | true =>
  obtain ⟨⟨x1,x2,x3,x4,x5,x6,x7,x8,h⟩,_,_⟩:=orig_L bs (szC c) c i (j6 _) hs hN hv;have hq:(conv c).starts=c.starts∧(conv c).axis=c.axis∧(conv c).amount=c.amount∧(conv c).perm=c.perm:=by cases c; exact ⟨rfl,rfl,rfl,rfl⟩
  simp only [jN,if_false,q1,q3,q4,hq.1,hq.2.1,hq.2.2.1,hq.2.2.2,h,Qb,if_true];rfl
theorem vld_pos' {s:List Int} (h:∀ n∈s,0≤n) (hp:0 < prodI s):∀ n∈s,1≤n:=fun n hn=>by
 have h0:=h n hn
 have:n≠0:=fun e=>by rw [prodI_zero (e ▸ hn)] at hp; omega
 omega
theorem len_allL {s:List Int} (h:checkR s=0):((allL s).length:Int)=prodI s:=allL_len fun n hn=>((z0a h).2.2 n hn).1
theorem get_allL {s:List Int} (h:checkR s=0) {j:Nat} (hj:j < (allL s).length):(allL s)[j]? = some (dig s (j:Int)):=by
 have hl:=len_allL h;exact allL_get (vld_pos' (fun n hn=>((z0a h).2.2 n hn).1) zV) j zV
theorem vld_get_allL {s:List Int} (h:checkR s=0) {j:Nat} (hj:j < (allL s).length):vld s (dig s (j:Int))=true:=mem_allL.1 (jE (get_allL h hj))
theorem dotp_dig {s:List Int} {o:Int} (hpos:∀ n∈s,1≤n) (h0:0≤o) (h1:o < prodI s):dotp s (dig s o)=o:=by
 have hv:=vld_dig hpos h0 h1;have hr:=z0d hv;have e1:=allL_get hpos o.toNat zV;have e2:=allL_get hpos (dotp s (dig s o)).toNat zV;rw [show ((o.toNat:Nat):Int)=o by omega] at e1;rw [show (((dotp s (dig s o)).toNat:Nat):Int)=dotp s (dig s o) by omega,dig_dotp hv] at e2;have hn:=allL_nodup s;obtain ⟨l1,g1⟩:=List.getElem?_eq_some_iff.1 e1;obtain ⟨l2,g2⟩:=List.getElem?_eq_some_iff.1 e2;have hne:=List.pairwise_iff_getElem.1 hn;rcases Nat.lt_trichotomy o.toNat (dotp s (dig s o)).toNat with h|h|h
 ·exact absurd (g1.trans g2.symm) (hne _ _ l1 l2 h)
 ·omega
 ·exact absurd (g2.trans g1.symm) (hne _ _ l2 l1 h)
theorem data_map {s data:List Int} (hc:checkR s=0) (hd:(data.length:Int)=prodI s):(allL s).map (fun i=>data.getD (dotp s i).toNat 0)=data:=by
 have hl:=len_allL hc;apply List.ext_getElem
 ·rw [jW]; omega
 ·intro j h1 h2;rw [List.getElem_map];have hj:j < (allL s).length:=by rw [jW] at h1; exact h1
  have e:=get_allL hc hj;obtain ⟨_,g⟩:=List.getElem?_eq_some_iff.1 e;have hv:=vld_get_allL hc hj;rw [g,dotp_dig (vld_pos hv) zV zV];simp [h2]
theorem map_get {s:List Int} {g:List Int→Int} (hc:checkR s=0) {i:List Int} (hv:vld s i=true):((allL s).map g)[(dotp s i).toNat]? = some (g i):=by
 have hr:=z0d hv;have hl:=len_allL hc;have hj:(dotp s i).toNat < (allL s).length:=by omega
 rw [jC,get_allL hc hj];rw [show (((dotp s i).toNat:Nat):Int)=dotp s i by omega,dig_dotp hv];rfl
def noS:Ql:=⟨ByteArray.empty,⟨[],[]⟩⟩
def rdF (ss:List Ql) (t:Bool × Int × Int):Int:=if t.1=true then 0 else ((ss.getD t.2.1.toNat noS).value.data).getD t.2.2.toNat 0
def valF (ss:List Ql) (c:Qa) (i:List Int):Int:=rdF ss (origF (szC c) c i)
def arrF (ss:List Ql) (c:Qa):Qo:=⟨c.shape,(allL c.shape).map (valF ss c)⟩
theorem origF_any {bs:List (List Int)} {n:Nat} {c:Qa} {i:List Int} (hz:szC c≤n) (hs:smC c) (hN:nodesF bs c) (hv:vld c.shape i=true):origF n c i=origF (szC c) c i:=by
 have h1:=(orig_L bs n c i hz hs hN hv).2.1;have h2:=(orig_L bs (szC c) c i (j6 _) hs hN hv).2.1;rw [h1] at h2;have h3:=jR h2;simp only [QdN.mk.injEq] at h3;exact Prod.ext h3.1 (Prod.ext h3.2.1 h3.2.2)
section
variable {bs:List (List Int)} {ss:List Ql} {c kid:Qa} {i l:List Int} {k:Int}
theorem val_ok (hs:smC c) (hN:nodesF bs c) (h1:c.kind≠1) (ef:stepF c i=(k,l,true)) (ik:idx c.kids k=some kid) (vk:vld kid.shape l=true):valF ss c i=valF ss kid l:=by
 have hm:=idx_mem ik;have hz:szC kid≤szCs c.kids:=szC_mem hm
 have e:origF (szC c) c i=origF (szCs c.kids) kid l:=by
  rw [szC_f c,Nat.add_comm,origF,if_neg h1,ef];simp only [if_true,idx_getd ik]
 unfold valF;rw [e,origF_any hz (smC_kid hs hm) ((z0h hN).2.2 kid hm) vk]
theorem val_no (h1:c.kind≠1) (ef:stepF c i=(k,l,false)):valF ss c i=0:=by
 unfold valF;rw [szC_f c,Nat.add_comm,origF,if_neg h1,ef];rfl
theorem rOff_no {s j:List Int} (h:vld s j=false) (hs:Sm s.length):Xg (s,j)=some (-1):=by
 unfold Xg;simp only [z0g s j hs,h,Qb,if_true]
theorem cell_ok (hc:checkR kid.shape=0) (j:List Int):Xi (arrF ss kid,j)=some (if vld kid.shape j=true then valF ss kid j else 0):=by
 obtain ⟨c1,c2,c3⟩:=z0a hc;have hS:Sm kid.shape.length:=Sm_of (show kid.shape.length≤1000 by omega);unfold Xi arrF;dsimp only;cases hv:vld kid.shape j with
 | false =>
  simp only [rOff_no hv hS,Qb,show ((-1:Int) < 0) by decide,if_true,j5,if_false]
 | true =>
  have hr:=z0d hv;have hn:¬ (dotp kid.shape j < 0):=by omega
  have hi:idx ((allL kid.shape).map (valF ss kid)) (dotp kid.shape j)=some (valF ss kid j):=by
   unfold idx;rw [if_pos hr.1,map_get hc hv]
  simp only [rOffset_ok hv c2 hS,Qb,hn,if_false,hi,if_true]
theorem aWin_L2 (v4:List Int) (p0:Qa) (p1:List Qo) (v1:List (List Int)) (n0:Int) (v6 v2:List Int) (a:Qo):∀ (s t p q:List Int),p0.starts=p++s→s.length=t.length→p.length=q.length→(q++t).length=v4.length→Sm (p++s).length →
  Y3 (v4,p0,p1,v1,n0,v6,v2,a,q++t,(p.length:Int))=some (q++addW t s)
 | [],[],p,q,e0,_,h2,h3,hs=>by
  rw [Y3]
  have:¬ ((p.length:Int) < (v4.length:Int)):=by simp at h3; omega
  simp only [this,if_false]; simp [addW]
 | n::s,x::t,p,q,e0,h1,h2,h3,hs=>by
  rw [Y3];have ih:=aWin_L2 v4 p0 p1 v1 n0 v6 v2 a s t (p++[n]) (q++[W (x+n)]) (by rw [e0]; simp) (by simpa using h1) (by simp [h2]) (by simpa using h3) (by rw [← Qt]; exact hs);have hl:((p.length:Int) < (v4.length:Int)):=by simp at h3; omega
  have hi:idx (q++x::t) (p.length:Int)=some x:=by rw [h2]; exact Qz
  have hst:idx p0.starts (p.length:Int)=some n:=by rw [e0]; exact Qz
  have hset:setM (q++x::t) (p.length:Int) (W (x+n))=some ((q++[W (x+n)])++t):=by rw [h2,z0i zX,mid_set]
  simp only [hl,if_true,z0b h3,Qb,hi,hst,hset,mid_W hs,ih];simp [addW]
 | [],_::_,_,_,_,h,_,_,_=>by cases h
 | _::_,[],_,_,_,h,_,_,_=>by cases h
theorem aTr_L3 (p0:Qa) (v1:List (List Int)) (n0:Int) (p1:List Qo) (v2 v3 v4:List Int) (a0:Qo) (i:List Int) (hv1:idx v1 n0=some i):∀ (t q:List Int) (a:List Int) (g:Nat),p0.perm=q++t→(∀ x∈t,0≤x∧x < (i.length:Int))→(q++t).length≤1000→a.length=q.length →
  ∃ g',Y4 (p0,v1,n0,p1,v2,v3,v4,a0,g,a,(q.length:Int))=some (g',a++pick i t)
 | [],q,a,g,e0,_,hs,ha=>by
  rw [Y4];refine ⟨g,?_⟩;simp only [e0,Ze,if_false]; simp [pick]
 | x::t,q,a,g,e0,hp,hs,ha=>by
  rw [Y4];have hx:=hp x (jL ..);obtain ⟨g',ih⟩:=aTr_L3 p0 v1 n0 p1 v2 v3 v4 a0 i hv1 t (q++[x]) (a++[i.getD x.toNat 0]) (gb g ([i.getD x.toNat 0]:List Int).isEmpty) (by rw [e0]; simp) (fun y hy=>hp y (jF _ hy)) (by rw [← Qt]; exact hs) (by simp [ha])
  have hap:app 8 a [i.getD x.toNat 0]=some (a++[i.getD x.toNat 0]):=app_ok (by
   have:1002 * 8≤room:=by decide +kernel
   simp at hs ⊢; omega)
  refine ⟨g',?_⟩;have hix:idx (q++x::t) (q.length:Int)=some x:=Qz;have hlt:((q.length:Int) < ((q++x::t).length:Int)):=QN;simp only [e0,hlt,if_true,hv1,hix,Qb,mid_W (Sm_of hs),z0e hx.1 hx.2,hap,ih];simp [pick]
theorem idx_nat {l:List Int} {j:Nat} (h:j < l.length):idx l (j:Int)=some (l.getD j 0):=by
 rw [z0e zV zV]; simp
theorem app_step (hs:smC c) (hN:nodesF bs c) (hc2:∀ k∈c.kids,smallS 400 k.shape) (h1:c.kind≠1) {p s:List (List Int)} {i:List Int} (hall:allL c.shape=p++i::s) (hlen:(allL c.shape).length≤100000) (acc:List Int) (hacc:acc.length≤100000) :
  Q4 (allL c.shape,c.kids.map (arrF ss),c,acc,(p.length:Int))=Q4 (allL c.shape,c.kids.map (arrF ss),c,acc++[valF ss c i],((p++[i]).length:Int)):=by
 obtain ⟨hn,hb,hkN⟩:=z0h hN;obtain ⟨f1,f2,f3,f4,f5⟩:=smC_f hs;have hv:vld c.shape i=true:=mem_allL.1 (by rw [hall]; simp);have hl:=z0l hv;obtain ⟨k0,l0,ok,ef,_,_,hl2,hok⟩:=step_ok c i hs hn (fun k hm=>(z0h (hkN k hm)).1) zV;have e0:=stepF_v h1 hv;have hkd:=hn.kids;rw [if_neg h1] at hkd
 have hne:∃ kid r,c.kids=kid::r:=by
  match e:c.kids with
  | []=>rw [e] at hkd; split at hkd <;> simp at hkd
  | kid::r=>exact ⟨kid,r,rfl⟩
 obtain ⟨kid,r,hk⟩:=hne;have hkm:kid∈c.kids:=by rw [hk]; simp
 have hck:checkR kid.shape=0:=(z0h (hkN kid hkm)).1.chk;have hks:kidS c=kid.shape:=by unfold kidS; rw [hk]
 have i0:idx c.kids 0=some kid:=by rw [hk]; rfl
 have hn6:=hc2 kid hkm;have hx:idx (allL c.shape) (p.length:Int)=some i:=by rw [hall]; exact Qz
 have hlt:((p.length:Int) < ((allL c.shape).length:Int)):=by rw [hall]; exact QN
 have ha0:app 8 ([]:List Int) i=some i:=app0_ok zV;have ia:idx (c.kids.map (arrF ss)) 0=some (arrF ss kid):=by rw [hk]; rfl
 have hw:W ((p.length:Int)+1)=((p++[i]).length:Int):=by
  have:p.length < (allL c.shape).length:=by omega
  rw [W_ok zV zV]; simp
 have hap:∀ v:Int,app 8 acc [v]=some (acc++[v]):=fun v=>app_le zW zV
 have hcell:=fun j=>cell_ok (ss:=ss) (kid:=kid) hck j
 have hsh:(arrF ss kid).shape=kid.shape:=rfl;have hkind:=hn.kind;rw [Q4];simp only [hlt,if_true,hx,ha0,ia,Qb];by_cases h2:c.kind=2
 ·obtain ⟨n1,n2,n3⟩:=hn.win h2;have n3:=n3 kid r hk;have hL:=aWin_L2 i c (c.kids.map (arrF ss)) (allL c.shape) (p.length:Int) i acc (arrF ss kid) c.starts i [] [] rfl zV rfl rfl (Sm_of (show ([]++c.starts).length≤1000 by simp; omega));simp only [jP,jK,jI] at hL;have hg:(addW i c.starts).length=i.length:=addW_len zV
  have hval:(if vld kid.shape (addW i c.starts)=true then valF ss kid (addW i c.starts) else 0)=valF ss c i:=by
   have e:=e0.trans (stepV2 h2);rw [hks] at e;by_cases hvv:vld kid.shape (addW i c.starts)=true
   ·rw [if_pos hvv] at e ⊢;rw [hvv] at e;exact (val_ok hs hN h1 e i0 hvv).symm
   ·rw [if_neg hvv] at e ⊢;have hvf:vld kid.shape (addW i c.starts)=false:=by simpa using hvv
    rw [hvf] at e;exact (val_no h1 e).symm
  simp only [h2,if_true,hL,Qb,z0b hg,hcell,hval,hap,hw]
 ·simp only [h2,if_false];by_cases h3:c.kind=3
  ·obtain ⟨n1,n2,n3⟩:=hn.rev (Or.inl h3) kid r hk;have e:=e0.trans (stepV3 h3);rw [e] at ef;cases ef;obtain ⟨kid',ik',vk,_⟩:=hok rfl;rw [i0] at ik'; cases ik';have hvv:=val_ok (ss:=ss) hs hN h1 e i0 vk;obtain ⟨j,hj⟩:=jZ n2;have hjl:j < c.shape.length:=by omega
   have g:=z0m hv j hjl;obtain ⟨_,_,c3⟩:=z0a hn.chk
   have d:c.shape.getD j 0≤65536:=by
    rw [jA,jB hjl];exact (c3 _ (z0 _)).2
   have w:W (W (c.shape.getD j 0 - 1) - i.getD j 0)=c.shape.getD j 0 - 1 - i.getD j 0:=by
    rw [show W (c.shape.getD j 0 - 1)=c.shape.getD j 0 - 1 from W_ok zV zV,W_ok zV zV]
   have hst:setM i (j:Int) (c.shape.getD j 0 - 1 - i.getD j 0)=some (i.set j (c.shape.getD j 0 - 1 - i.getD j 0)):=z0i zV;rw [hks,n1,hj,Int.toNat_natCast] at vk hvv;simp only [h3,if_true,hsh,n1,hj,idx_nat hjl,idx_nat (l:=i) (show j < i.length by omega),Qb,w,hst,z0b z0j,hcell,hap,hw];rw [vk,if_pos rfl,hvv]
  ·simp only [h3,if_false];by_cases h4:c.kind=4
   ·obtain ⟨n1,n2,n3⟩:=hn.rev (Or.inr h4) kid r hk;obtain ⟨a1,a2⟩:=hn.rot h4;have e:=e0.trans (stepV4 h4);rw [e] at ef;cases ef;obtain ⟨kid',ik',vk,_⟩:=hok rfl;rw [i0] at ik'; cases ik';have hvv:=val_ok (ss:=ss) hs hN h1 e i0 vk;obtain ⟨j,hj⟩:=jZ n2;have hjl:j < c.shape.length:=by omega
    have g:=z0m hv j hjl;obtain ⟨_,_,c3⟩:=z0a hn.chk
    have d:c.shape.getD j 0≤65536:=by
     rw [jA,jB hjl];exact (c3 _ (z0 _)).2
    rw [hj,Int.toNat_natCast] at a2;have w:W (i.getD j 0+c.amount)=i.getD j 0+c.amount:=W_ok zV zV;have hst:∀ v:Int,setM i (j:Int) v=some (i.set j v):=fun v=>z0i zV
    have hrem:remM (i.getD j 0+c.amount) (c.shape.getD j 0)=some ((i.getD j 0+c.amount) % c.shape.getD j 0):=remM_ok zV zV;rw [hks,n1,hj,Int.toNat_natCast] at vk hvv;simp only [h4,if_true,hsh,n1,hj,idx_nat hjl,idx_nat (l:=i) (show j < i.length by omega),Qb,w,hrem,hst,z0b z0j,hcell,hap,hw];rw [vk,if_pos rfl,hvv]
   ·simp only [h4,if_false];by_cases h5:c.kind=5
    ·obtain ⟨n1,n2⟩:=hn.tra h5 kid r hk;have e:=e0.trans (stepV5 h5);rw [e] at ef;cases ef;obtain ⟨kid',ik',vk,_⟩:=hok rfl;rw [i0] at ik'; cases ik';have hvv:=val_ok (ss:=ss) hs hN h1 e i0 vk
     have hpm:∀ x∈c.perm,0≤x∧x < (i.length:Int):=by
      intro x hx;obtain ⟨j,hj,rfl⟩:=List.getElem_of_mem hx;have:=n2 (fun n hn=>((z0a hck).2.2 n hn).1) j zV;rw [jA,jB hj,Option.getD_some] at this;omega
     obtain ⟨g',hL⟩:=aTr_L3 c (allL c.shape) (p.length:Int) (c.kids.map (arrF ss)) acc i i (arrF ss kid) i hx c.perm [] [] 0 rfl hpm zW rfl;simp only [jP,jK,jI] at hL;simp only [h5,if_true,hL,Qb,hcell,hap,hw];rw [vk,if_pos rfl,hvv]
    ·simp only [h5,if_false];by_cases h6:c.kind=6
     ·have e:=e0.trans (stepV6 h6);rw [hks] at e;have hdl:(arrF ss kid).data.length=(allL kid.shape).length:=by unfold arrF; simp
      have hal:=len_allL hck;have hr:=z0d hv
      have hpos:dotp c.shape i=(p.length:Int):=by
       have hj:p.length < (allL c.shape).length:=by omega
       have g:=get_allL hn.chk hj;rw [hall] at g;simp at g;have h0:(p.length:Int) < prodI c.shape:=by have:=len_allL hn.chk; omega
       rw [g,dotp_dig (vld_pos hv) zV h0]
      simp only [h6,if_true];by_cases hz:prodI kid.shape=0
      ·have hz2:((arrF ss kid).data.length:Int)=0:=by omega
       rw [if_pos hz] at e;simp only [hz2,if_true,hap,Qb,hw,val_no (ss:=ss) h1 e]
      ·have hz2:¬ ((arrF ss kid).data.length:Int)=0:=by omega
       rw [if_neg hz] at e;rw [e] at ef;cases ef;obtain ⟨kid',ik',vk,_⟩:=hok rfl;rw [i0] at ik'; cases ik';have hvv:=val_ok (ss:=ss) hs hN h1 e i0 vk;have hm0:=Int.emod_nonneg (p.length:Int) hz;have hm1:=Int.emod_lt_of_pos (p.length:Int) (show 0 < prodI kid.shape by omega)
       have hrem:remM (p.length:Int) ((arrF ss kid).data.length:Int)=some ((p.length:Int) % prodI kid.shape):=by
        rw [show ((arrF ss kid).data.length:Int)=prodI kid.shape by omega];exact remM_ok zV zV
       have hid:idx (arrF ss kid).data ((p.length:Int) % prodI kid.shape)=some (valF ss c i):=by
        have hj:((p.length:Int) % prodI kid.shape).toNat < (allL kid.shape).length:=by omega
        unfold idx arrF;rw [if_pos hm0,jC,get_allL hck hj,Int.toNat_of_nonneg hm0,hvv,hpos];rfl
       simp only [hz2,if_false,hrem,Qb,hid,hap,hw]
     ·have h7:c.kind=7:=by omega
      have gT:∀ inst:Decidable True,@QS True inst=some ():=fun inst=>@z0b _ inst trivial
      simp only [h6,if_false];simp only [h7,if_true];rw [if_pos h7] at hkd
      obtain ⟨k2,r2,hr2⟩:∃ k2 r2,r=k2::r2:=by
       cases r with
       | nil=>rw [hk] at hkd; simp at hkd
       | cons k2 r2=>exact ⟨k2,r2,rfl⟩
      rw [hr2] at hk;obtain ⟨n1,n2,n3,n4,n5⟩:=hn.cat h7 kid k2 r2 hk;obtain ⟨j,hj⟩:=jZ n3;have hjl:j < kid.shape.length:=by omega
      have ia1:idx (c.kids.map (arrF ss)) 1=some (arrF ss k2):=by rw [hk]; rfl
      have i1:idx c.kids 1=some k2:=by rw [hk]; rfl
      have hck2:checkR k2.shape=0:=(z0h (hkN k2 (by rw [hk]; simp))).1.chk;have e:=e0.trans (stepV7 h7);rw [hks,hj,Int.toNat_natCast] at e;have g:=z0m hv j zV
      have d:0≤kid.shape.getD j 0∧kid.shape.getD j 0≤65536:=by
       rw [jA,jB hjl];exact (z0a hck).2.2 _ (z0 _)
      have d2:c.shape.getD j 0≤65536:=by
       have hjc:j < c.shape.length:=by omega
       rw [jA,jB hjc];exact ((z0a hn.chk).2.2 _ (z0 _)).2
      simp only [hj,idx_nat (l:=i) (show j < i.length by omega),hsh,idx_nat hjl,Qb];by_cases hge:i.getD j 0 < kid.shape.getD j 0
      ·rw [if_pos hge] at e;rw [e] at ef;cases ef;obtain ⟨kid',ik',vk,_⟩:=hok rfl;rw [i0] at ik'; cases ik';have hvv:=val_ok (ss:=ss) hs hN h1 e i0 vk;have hnge:¬ (i.getD j 0≥kid.shape.getD j 0):=by omega
       have hgg:i.length=i.length:=rfl;have hc0:=hcell i;rw [vk,if_pos rfl,← hvv] at hc0;have hc1:Xi ((⟨kid.shape,(arrF ss kid).data⟩:Qo),i)=some (valF ss c i):=hc0;simp only [hnge,if_false,Qb,gT,hc1,hap,hw]
      ·rw [if_neg hge] at e;rw [e] at ef;cases ef;obtain ⟨kid',ik',vk,_⟩:=hok rfl;rw [i1] at ik'; cases ik';have hvv:=val_ok (ss:=ss) hs hN h1 e i1 vk;have hnge:(i.getD j 0≥kid.shape.getD j 0):=by omega
       have w:W (i.getD j 0 - kid.shape.getD j 0)=i.getD j 0 - kid.shape.getD j 0:=W_ok zV zV;have hst:setM i (j:Int) (i.getD j 0 - kid.shape.getD j 0)=some (i.set j (i.getD j 0 - kid.shape.getD j 0)):=z0i zV;have hc0:=cell_ok (ss:=ss) hck2 (i.set j (i.getD j 0 - kid.shape.getD j 0));rw [vk,if_pos rfl,← hvv] at hc0;have hc1:Xi ((⟨(arrF ss k2).shape,(arrF ss k2).data⟩:Qo),i.set j (i.getD j 0 - kid.shape.getD j 0))=some (valF ss c i):=hc0;simp only [hnge,if_true,Qb,w,hst,ia1,z0b z0j,hc1,hap,hw]
end
structure srcF (bs:List (List Int)) (ss:List Ql):Prop where
 shp:bs=ss.map fun s=>s.value.shape
 dat:∀ s∈ss,(s.value.data.length:Int)=prodI s.value.shape
def elS (s:Ql):Qp:=⟨s.name,s.value⟩
theorem src_get {bs:List (List Int)} {ss:List Ql} (h:srcF bs ss) {k:Int} {sh:List Int} (hk:idx bs k=some sh):∃ s,idx ss k=some s∧s.value.shape=sh∧(s.value.data.length:Int)=prodI sh∧ss.getD k.toNat noS=s:=by
 rw [h.shp] at hk;unfold idx at hk;split at hk
 ·rename_i h0;rw [jC] at hk;obtain ⟨s,e,rfl⟩:=Option.map_eq_some_iff.1 hk;refine ⟨s,by unfold idx; rw [if_pos h0,e],rfl,h.dat s (jE e),?_⟩;rw [jA,e]; rfl
 ·cases hk
theorem data_get {l:List Int} {o n:Int} (hl:(l.length:Int)=n) (h0:0≤o) (h1:o < n):idx l o=some (l.getD o.toNat 0):=z0e h0 zV
section
variable {bs:List (List Int)} {ss:List Ql} {c:Qa}
theorem read_ok (hS:srcF bs ss) {t:Bool × Int × Int} (ht:t.1=false→∃ sh,idx bs t.2.1=some sh∧0≤t.2.2∧t.2.2 < prodI sh∧checkR sh=0) (cc:Qh) (rc:Qa) :
  QdY (⟨cc,ss.map elS⟩,cellP t)=some (rdF ss t)∧Qgw (⟨rc,ss⟩,cellQ t)=some (rdF ss t):=by
 obtain ⟨f,b,o⟩:=t;cases f with
 | true=>exact ⟨rfl,rfl⟩
 | false =>
  obtain ⟨sh,g1,g2,g3,g4⟩:=ht rfl;simp only at g1 g2 g3;obtain ⟨s,e1,e2,e3,e4⟩:=src_get hS g1
  have e5:idx (ss.map elS) b=some (elS s):=by
   unfold idx at e1 ⊢;split at e1
   ·rename_i h0;rw [if_pos h0,jC,e1]; rfl
   ·cases e1
  have e6:=data_get e3 g2 g3;constructor
  ·simp only [QdY,cellP,j5,if_false,e5,Qb,elS,e6,rdF,e4]
  ·simp only [Qgw,cellQ,j5,if_false,e1,Qb,e6,rdF,e4]
theorem app_L1 (hs:smC c) (hN:nodesF bs c) (hc2:∀ k∈c.kids,smallS 400 k.shape) (h1:c.kind≠1) (hlen:(allL c.shape).length≤100000):∀ (s p:List (List Int)),allL c.shape=p++s →
  Q4 (allL c.shape,c.kids.map (arrF ss),c,p.map (valF ss c),(p.length:Int))=some ((allL c.shape).map (valF ss c))
 | [],p,e=>by
  rw [jT] at e;rw [Q4]
  have:¬ ((p.length:Int) < ((allL c.shape).length:Int)):=by rw [e]; omega
  rw [if_neg this,e]
 | i::s,p,e=>by
  have ih:=app_L1 hs hN hc2 h1 hlen s (p++[i]) (by rw [e]; simp);rw [app_step hs hN hc2 h1 e hlen _ (by rw [jW]; rw [e] at hlen; simp at hlen; omega)];rw [zD] at ih;exact ih
theorem Apply_ok (hs:smC c) (hN:nodesF bs c) (hC:cellsF 400 c) (h1:c.kind≠1):QbU (c,c.kids.map (arrF ss))=some (arrF ss c):=by
 obtain ⟨hsh,hk⟩:=cellsF_f hC;have hc:=(z0h hN).1.chk;have hl:=len_allL hc;have hp:(allL c.shape).length≤100000:=by have:=hsh.2.2.1; omega
 have hA:=small_All hsh zV;have e:=app_L1 (ss:=ss) hs hN (fun k hk2=>(cellsF_f (hk k hk2)).1) h1 hp (allL c.shape) [] rfl;simp only [List.map_nil,jK,jI] at e;unfold QbU;simp only [hA,Qb,e];rfl
theorem dir_L1 (rc:Qa) (hk:∀ k∈c.kids,XH (⟨rc,ss⟩,k)=some (arrF ss k)) (hl:c.kids.length≤1000):∀ (s p:List Qa),c.kids=p++s →
  ZQ (c,⟨rc,ss⟩,p.map (arrF ss),(p.length:Int))=some (c.kids.map (arrF ss))
 | [],p,e=>by
  rw [ZQ];rw [jT] at e
  have:¬ ((p.length:Int) < (c.kids.length:Int)):=by rw [e]; omega
  rw [if_neg this,e]
 | k::s,p,e=>by
  rw [ZQ];have ih:=dir_L1 rc hk hl s (p++[k]) (by rw [e]; simp);have hkk:=hk k (by rw [e]; simp);have hlen:(p++k::s).length≤1000:=by rw [← e]; exact hl
  have hlt:((p.length:Int) < (c.kids.length:Int)):=by rw [e]; exact QN
  have hi:idx c.kids (p.length:Int)=some k:=by rw [e]; exact Qz
  have ha:app 48 (p.map (arrF ss)) ([arrF ss k]:List Qo)=some ((p++[k]).map (arrF ss)):=by
   rw [app_le (by simp at hlen ⊢; omega) zV,zD]; rfl
  simp only [hlt,if_true,hi,Qb,hkk,ha,mid_W (Sm_of hlen),ih]
theorem Direct_ok (hS:srcF bs ss) (rc:Qa):∀ (n:Nat) (c:Qa),szC c≤n→smC c→nodesF bs c→cellsF 400 c→XH (⟨rc,ss⟩,c)=some (arrF ss c):=by
 intro n;induction n with
 | zero=>intro c hz; have:=szC_pos c; omega
 | succ n ih =>
  intro c hz hs hN hC;obtain ⟨hn,hb,hkN⟩:=z0h hN;rw [XH];by_cases h1:c.kind=1
  ·obtain ⟨s,e1,e2,e3,e4⟩:=src_get hS (hb h1);simp only [h1,if_true,e1,Qb];congr 1
   have hv:∀ i,valF ss c i=s.value.data.getD (dotp c.shape i).toNat 0:=by
    intro i;unfold valF rdF;rw [szC_f c,Nat.add_comm,origF,if_pos h1];simp only [j5,if_false,e4]
   have hd:=data_map (data:=s.value.data) hn.chk e3;unfold arrF
   have:(allL c.shape).map (valF ss c)=s.value.data:=by
    rw [← hd];exact List.map_congr_left (fun i _=>hv i)
   rw [this,← e2]
  ·have hkl:c.kids.length≤1000:=by have:=(smC_f hs).2.2.2.1; omega
   have e:=dir_L1 (c:=c) (ss:=ss) rc (fun k hk=>ih k (by have:=szC_mem hk; have:=szC_f c; omega) (smC_kid hs hk) (hkN k hk) ((cellsF_f hC).2 k hk)) hkl c.kids [] rfl;simp only [List.map_nil,jK,jI] at e;simp only [h1,if_false,e,Qb,etaRj,Apply_ok (ss:=ss) hs hN hC h1]
theorem Value_ok (hS:srcF bs ss) (hs:smC c) (hN:nodesF bs c) {i:List Int} (hi:i.length≤1000):Qdl (⟨conv c,ss.map elS⟩,i)=some (if vld c.shape i=true then (valF ss c i,true) else (0,false)):=by
 unfold Qdl;simp only [etaCj,pOrigin_ok hs hN hi,Qb];cases hv:vld c.shape i with
 | false=>rfl
 | true =>
  have hr:=(read_ok hS (orig_L bs (szC c) c i (j6 _) hs hN hv).2.2 (conv c) c).1;unfold cellP at hr;simp only [if_true,jN,if_false,cellP,hr,Qb];rfl
theorem each_L1 (hS:srcF bs ss) (hs:smC c) (hN:nodesF bs c) (v4:List Int) (hv4:v4.length=(allL c.shape).length) (hp:(allL c.shape).length≤100000):∀ (s p:List (List Int)),allL c.shape=p++s →
  ZJ (v4,c.shape,c.kind,c.shape,c.buffer,c.starts,c.axis,c.amount,c.perm,convs c.kids,ss.map elS,p.map (valF ss c)++List.replicate s.length 0,(p.length:Int))=some ((allL c.shape).map (valF ss c))
 | [],p,e=>by
  rw [jT] at e;rw [ZJ]
  have:¬ ((p.length:Int) < (v4.length:Int)):=by rw [hv4,e]; omega
  rw [if_neg this,jK,List.replicate_zero,jT,e]
 | x::s,p,e=>by
  rw [ZJ];have hc:=(z0h hN).1.chk;have hl:=len_allL hc;have ih:=each_L1 hS hs hN v4 hv4 hp s (p++[x]) (by rw [e]; simp);have hj:p.length < (allL c.shape).length:=by rw [e]; simp
  have hx:vld c.shape x=true:=mem_allL.1 (by rw [e]; simp);have hg:=get_allL hc hj
  have hxd:x=dig c.shape (p.length:Int):=by
   rw [e] at hg; simp at hg; exact hg
  have hgi:=gIndex_ok hc (vld_pos hx) (show (0:Int)≤(p.length:Int) by omega) (show (p.length:Int) < prodI c.shape by omega);rw [← hxd] at hgi;have hlt:((p.length:Int) < (v4.length:Int)):=by rw [hv4]; omega
  have hxl:=z0l hx;have hc1:=(z0a hc).1;have hV:=Value_ok (c:=c) hS hs hN (i:=x) zV;rw [hx,if_pos rfl] at hV
  have he:XC (x,c.kind,c.shape,c.buffer,c.starts,c.axis,c.amount,c.perm,convs c.kids,ss.map elS,p.map (valF ss c)++List.replicate (x::s).length 0,c.shape,v4.length)=some (valF ss c x):=by
   unfold XC;simp only [conv_eta,hV,Qb]
  have hlen:(p.map (valF ss c)++List.replicate (x::s).length (0:Int)).length=v4.length:=by rw [hv4,e]; simp
  have hset:setM (p.map (valF ss c)++List.replicate (x::s).length (0:Int)) (p.length:Int) (valF ss c x)=some ((p++[x]).map (valF ss c)++List.replicate s.length 0):=by
   rw [z0i zX];congr 1;rw [z8,List.replicate_succ];have:=mid_set (p:=p.map (valF ss c)) (s:=List.replicate s.length (0:Int)) (x:=0) (y:=valF ss c x);rw [jW] at this;rw [this]; simp
  have hidx:∃ v,idx (p.map (valF ss c)++List.replicate (x::s).length (0:Int)) (p.length:Int)=some v:=by
   have h2:p.length < (p.map (valF ss c)++List.replicate (x::s).length (0:Int)).length:=by simp
   exact ⟨_,idx_ok h2⟩
  obtain ⟨v,hidx⟩:=hidx
  have hT:YM ((p.length:Int),x,c.kind,c.shape,c.buffer,c.starts,c.axis,c.amount,c.perm,convs c.kids,ss.map elS,p.map (valF ss c)++List.replicate (x::s).length 0,c.shape,v4.length)=some ((p++[x]).map (valF ss c)++List.replicate s.length 0):=by
   unfold YM;simp only [he,Qb,z0b hlen,hidx,hset]
  have hw:W ((p.length:Int)+1)=((p++[x]).length:Int):=by
   rw [W_ok zV zV]; simp
  simp only [hlt,if_true,hgi,Qb,hT,hw];exact ih
theorem make_le {n:Int} (h0:0≤n) (h:n≤100000):makeM 8 n (0:Int)=some (List.replicate n.toNat 0):=by
 have hr:100000 * 8≤room:=by decide +kernel
 unfold makeM;rw [if_pos ⟨h0,by show n * 8≤(room:Int); omega,by omega⟩]
theorem Denote_ok (hS:srcF bs ss) (hs:smC c) (hN:nodesF bs c) (hC:cellsF 400 c):Qcw ⟨conv c,ss.map elS⟩=some (arrF ss c):=by
 obtain ⟨hsh,_⟩:=cellsF_f hC;have hc:=(z0h hN).1.chk;obtain ⟨c1,c2,c3⟩:=z0a hc;have hl:=len_allL hc;have hp:(allL c.shape).length≤100000:=by have:=hsh.2.2.1; omega
 have hSm:Sm c.shape.length:=Sm_of (show c.shape.length≤1000 by omega);have e0:=each_L1 (ss:=ss) hS hs hN (List.replicate (prodI c.shape).toNat 0) zW hp (allL c.shape) [] rfl;simp only [List.map_nil,jK,jI,jP] at e0;rw [show (allL c.shape).length=(prodI c.shape).toNat by omega] at e0
 have hcp:Yk c.shape=some c.shape:=by
  unfold Yk;have hcc:cpM (List.replicate c.shape.length (0:Int)) c.shape=c.shape:=by unfold cpM; simp
  have hg:c.shape.length=(List.replicate c.shape.length (0:Int)).length:=by simp
  simp only [make_ok (show c.shape.length≤1000 by omega),Qb,z0b hg,hcc]
 have hcells:Z8 c.shape=some (prodI c.shape):=by rw [gCells_ok c.shape hSm,cellsR,if_pos hc]
 have hmk:=make_le (n:=prodI c.shape) zV zV;have hq:=convF c;have hq2:(conv c).starts=c.starts∧(conv c).axis=c.axis∧(conv c).amount=c.amount∧(conv c).perm=c.perm:=by cases c; exact ⟨rfl,rfl,rfl,rfl⟩
 have hn0:¬ ((0:Int)≠0):=by simp
 unfold Qcw X5 Qak;simp only [hq.1,hq.2.1,hq.2.2.1,hq.2.2.2,hq2.1,hq2.2.1,hq2.2.2.1,hq2.2.2.2,shapeCheck_ok c.shape hSm,hc,hn0,if_false,Qb,hcp,hcells,hmk,e0];rw [z0b zW];rfl
theorem eqA_L1 (a:Qo) (hs:a.data.length≤1000000):∀ m i:Nat,i+m=a.data.length→YZ (a,a,(i:Int))=some (.inr ())
 | 0,i,h=>by
  rw [YZ]
  have:¬ ((i:Int) < (a.data.length:Int)):=by omega
  simp only [this,if_false]
 | m+1,i,h=>by
  rw [YZ];have h1:((i:Int) < (a.data.length:Int)):=by omega
  have e:=eqA_L1 a hs m (i+1) zV;have w:W ((i:Int)+1)=((i+1:Nat):Int):=W_succ zV;have hi:idx a.data (i:Int)=some a.data[i]:=idx_ok zV;simp only [h1,if_true,hi,Qb,ne_eq,z3,if_false,w,e]
theorem eqA (a:Qo) (h1:a.shape.length≤1000) (h2:a.data.length≤1000000):QaM (a,a)=some true:=by
 unfold QaM;have e:=eqA_L1 a h2 a.data.length 0 zV;simp only [jI] at e;simp only [Equal_ok' a.shape a.shape (Sm_of h1),decide_true,Qb,jN,if_false,bne_self_eq_false,j5,e]
end
theorem bks_len:∀ l:List Qh,(bks l).length=l.length
 | []=>rfl
 | _::l=>by rw [bks,z8,z8,bks_len l]
theorem bks_app:∀ a b:List Qh,bks (a++b)=bks a++bks b
 | [],b=>by rw [bks]; rfl
 | x::a,b=>by rw [List.cons_append,bks,bks,bks_app a b,List.cons_append]
mutual
theorem conv_bk:∀ c:Qh,conv (bk c)=c
 | ⟨k,sh,b,st,ax,am,pe,ks⟩=>by rw [bk,conv,convs_bks ks]
theorem convs_bks:∀ l:List Qh,convs (bks l)=l
 | []=>by rw [bks,convs]
 | k::ks=>by rw [bks,convs,conv_bk k,convs_bks ks]
end
theorem elS_bkS (ss:List Qp):(ss.map bkS).map elS=ss:=by
 rw [z7]; exact List.map_id' ss
theorem ap128 {l:List Qa} {v:Qa} (h:l.length≤1000):app 128 l [v]=some (l++[v]):=app_le2 zW zV
theorem ap64 {l:List Ql} {v:Ql} (h:l.length≤1000):app 64 l [v]=some (l++[v]):=app_le2 zW zV
mutual
theorem Back_ok:∀ c:Qh,smC (bk c)→Qam c=some (bk c)
 | ⟨k,sh,b,st,ax,am,pe,ks⟩,h=>by
  rw [bk] at h;have hf:=smC_f h;have hl:=hf.2.2.2.1;rw [bks_len] at hl;have e:=Back_loop ks [] k sh b st ax am pe hf.2.2.2.2 (by simpa using hl);simp only [jP,jK,jI,bks] at e;rw [Qam];simp only [e,Qb,bk]
theorem Back_loop:∀ (s p:List Qh) (k:Int) (sh:List Int) (b:Int) (st:List Int) (ax am:Int) (pe:List Int),smCs (bks s)→p.length+s.length≤600 →
  Yq (⟨k,sh,b,st,ax,am,pe,p++s⟩,bks p,(p.length:Int))=some (bks (p++s))
 | [],p,k,sh,b,st,ax,am,pe,h1,h2=>by
  rw [Yq]; simp only [jT,Int.lt_irrefl,if_false]
 | x::s,p,k,sh,b,st,ax,am,pe,h1,h2=>by
  rw [bks,smCs] at h1;have e:=Back_ok x h1.1;have e':=Back_loop s (p++[x]) k sh b st ax am pe h1.2 (by simp at h2 ⊢; omega);rw [← Qt] at e'
  have ha:app 128 (bks p) [bk x]=some (bks (p++[x])):=by
   rw [ap128 (by rw [bks_len]; simp at h2; omega),bks_app,bks,bks]
  have hw:W ((p.length:Int)+1)=((p++[x]).length:Int):=by
   simp at h2;rw [W_ok zV zV]; simp
  rw [Yq];simp only [QN,if_true,Qz,Qb,e,ha,hw,e']
end
theorem bsrc_L1 (c:Qh) (v:Qa) (S:List Qp) (hS:S.length≤1000):∀ (s p:List Qp),S=p++s→Xo (⟨c,S⟩,v,p.map bkS,(p.length:Int))=some (S.map bkS)
 | [],p,e=>by
  rw [Xo]
  have:¬ ((p.length:Int) < (S.length:Int)):=by rw [e]; simp
  rw [if_neg this,e,jT]
 | x::s,p,e=>by
  have ih:=bsrc_L1 c v S hS s (p++[x]) (by rw [e]; simp);have h1:((p.length:Int) < (S.length:Int)):=by rw [e]; exact QN
  have hi:idx S (p.length:Int)=some x:=by rw [e]; exact Qz
  have hw:W ((p.length:Int)+1)=((p++[x]).length:Int):=by
   rw [e] at hS; exact mid_W (Sm_le hS)
  have hp:p.length≤S.length:=by rw [e]; simp
  have ha:app 64 (p.map bkS) ([(⟨x.name,x.value⟩:Ql)]:List Ql)=some ((p++[x]).map bkS):=by
   rw [ap64 zW,zD]; rfl
  rw [Xo];simp only [h1,if_true,hi,Qb,ha,hw,ih]
theorem Back15_ok {c:Qh} {S:List Qp} (hc:smC (bk c)) (hS:S.length≤1000):Qcv ⟨c,S⟩=some ⟨bk c,S.map bkS⟩:=by
 have e:=bsrc_L1 c (bk c) S hS S [] rfl;simp only [jK,jI,List.map_nil] at e;unfold Qcv;simp only [etaC,Back_ok c hc,Qb,e]
mutual
theorem Same_ok:∀ c:Qa,smC c→Qao (c,c)=some true
 | ⟨k,sh,b,st,ax,am,pe,ks⟩,h=>by
  have hf:=smC_f h;have e:=Same_loop ks [] k sh b st ax am pe hf.2.2.2.2 (by have:=hf.2.2.2.1; simpa using this);simp only [jP,jK,jI] at e;have e1:=fun (l:List Int) (hl:l.length≤40)=>Equal_ok l l (Sm_of (show l.length≤1000 by omega))
  rw [Qao];simp only [ne_eq,z3,if_false,bne_self_eq_false,Qb,j5,e1 sh hf.1,e1 st hf.2.1,e1 pe hf.2.2.1,decide_true,Bool.not_true,e]
theorem Same_loop:∀ (s p:List Qa) (k:Int) (sh:List Int) (b:Int) (st:List Int) (ax am:Int) (pe:List Int),smCs s→p.length+s.length≤600 →
  Yt (⟨k,sh,b,st,ax,am,pe,p++s⟩,⟨k,sh,b,st,ax,am,pe,p++s⟩,(p.length:Int))=some (.inr ())
 | [],p,k,sh,b,st,ax,am,pe,h1,h2=>by
  rw [Yt]; simp only [Ze,if_false]
 | x::s,p,k,sh,b,st,ax,am,pe,h1,h2=>by
  rw [smCs] at h1;have e:=Same_ok x h1.1;have e':=Same_loop s (p++[x]) k sh b st ax am pe h1.2 (by simp at h2 ⊢; omega);rw [← Qt] at e'
  have hw:W ((p.length:Int)+1)=((p++[x]).length:Int):=by
   simp at h2;rw [W_ok zV zV]; simp
  rw [Yt];simp only [QN,if_true,Qz,Qb,e,jN,if_false,hw,e']
end
theorem sms_L1 (S:List Ql) (hS:S.length≤1000) (hb:∀ s∈S,s.value.shape.length≤1000∧s.value.data.length≤1000):∀ (s p:List Ql),S=p++s→ZC (S,S,(p.length:Int))=some (.inr ())
 | [],p,e=>by
  rw [ZC]
  have:¬ ((p.length:Int) < (S.length:Int)):=by rw [e]; simp
  rw [if_neg this]
 | x::s,p,e=>by
  have ih:=sms_L1 S hS hb s (p++[x]) (by rw [e]; simp);have h1:((p.length:Int) < (S.length:Int)):=by rw [e]; exact QN
  have hi:idx S (p.length:Int)=some x:=by rw [e]; exact Qz
  have hw:W ((p.length:Int)+1)=((p++[x]).length:Int):=by
   rw [e] at hS; exact mid_W (Sm_le hS)
  have hx:=hb x (by rw [e]; simp);rw [ZC];simp only [h1,if_true,hi,Qb,ne_eq,z3,if_false,eqA x.value hx.1 zV,Bool.not_true,j5,hw,ih]
theorem Same15_ok {c:Qa} {S:List Ql} (hc:smC c) (hS:S.length≤1000) (hb:∀ s∈S,s.value.shape.length≤1000∧s.value.data.length≤1000):Qcz (⟨c,S⟩,⟨c,S⟩)=some true:=by
 have e:=sms_L1 S hS hb S [] rfl;simp only [jK,jI] at e;unfold Qcz JX;simp only [etaR,Same_ok c hc,Qb,if_true,ne_eq,z3,if_false,e]
def shpS (ss:List Ql):List (List Int):=ss.map fun s=>s.value.shape
theorem shp_L1 (p0:QA) (hl:p0.sources.length≤1000):∀ (s p:List Ql),p0.sources=p++s→YL (p0,shpS p,(p.length:Int))=some (shpS p0.sources)
 | [],p,e=>by
  rw [YL];rw [jT] at e
  have:¬ ((p.length:Int) < (p0.sources.length:Int)):=by rw [e]; omega
  rw [if_neg this,e]
 | x::s,p,e=>by
  rw [YL];have ih:=shp_L1 p0 hl s (p++[x]) (by rw [e]; simp);have hlen:(p++x::s).length≤1000:=by rw [← e]; exact hl
  have hlt:((p.length:Int) < (p0.sources.length:Int)):=by rw [e]; exact QN
  have hi:idx p0.sources (p.length:Int)=some x:=by rw [e]; exact Qz
  have ha:app 24 (shpS p) ([x.value.shape]:List (List Int))=some (shpS (p++[x])):=by
   rw [app_le (by simp [shpS] at hlen ⊢; omega) zV]; simp [shpS]
  simp only [hlt,if_true,hi,Qb,ha,mid_W (Sm_of hlen),ih]
theorem Fits_tot (c:Qa) (ss:List Ql) (hl:ss.length≤1000) (hcs:c.shape.length≤1000):∃ b,QcB (⟨c,ss⟩,400)=some b∧(b=true→smC c∧nodesF (shpS ss) c∧cellsF 400 c):=by
 have e:=shp_L1 ⟨c,ss⟩ hl ss [] rfl;simp only [jK,jI] at e
 have e':Qbh ⟨c,ss⟩=some (shpS ss):=by
  unfold Qbh;dsimp only;rw [show ([]:List (List Int))=shpS [] from rfl,e]; rfl
 obtain ⟨b,eb,hb⟩:=Small_ok c (shpS ss) 400 zV;unfold QcB Qc9;simp only [etaR,e',Qb,eb,Cells_ok c.shape (Sm_of hcs)];cases b with
 | false=>exact ⟨false,rfl,fun h=>by cases h⟩
 | true =>
  obtain ⟨q1,q2,q3,_⟩:=hb rfl;simp only [if_true];exact ⟨_,rfl,fun _=>⟨q1,q2,q3⟩⟩
theorem small11_L1 (l:List Qg) (hl:l.length≤1000) (hb:∀ b∈l,b.value.shape.length≤16):∀ (s p:List Qg),l=p++s→∃ r,Y2 (l,300,(p.length:Int))=some r
 | [],p,e=>by
  rw [Y2]
  have:¬ ((p.length:Int) < (l.length:Int)):=by rw [e]; simp
  rw [if_neg this];exact ⟨_,rfl⟩
 | x::s,p,e=>by
  rw [Y2];have h1:((p.length:Int) < (l.length:Int)):=by rw [e]; exact QN
  have hi:idx l (p.length:Int)=some x:=by rw [e]; exact Qz
  have hw:W ((p.length:Int)+1)=((p++[x]).length:Int):=by
   have:=hl; rw [e] at this; exact mid_W (Sm_of this)
  obtain ⟨r,er⟩:=small11_L1 l hl hb s (p++[x]) (by rw [e]; simp);have hx:=hb x (by rw [e]; simp);obtain ⟨b,eb,_⟩:=small_ok x.value.shape 300 zV zV;obtain ⟨ce,ec,_⟩:=check5 x.value zV;simp only [h1,if_true,hi,Qb,Qc7,eb,ec,ite_some,hw,er];exact ⟨_,rfl⟩
theorem Small11_e (l:List Qg):∃ b,QbS (l,300)=some b∧(b=true→okL l):=by
 obtain ⟨b1,e1,h1⟩:=Few_is l;unfold QbS;simp only [e1,Qb];cases b1 with
 | false=>exact ⟨false,by simp,fun h=>by cases h⟩
 | true =>
 obtain ⟨h12,hb1⟩:=h1 rfl;obtain ⟨b2,e2,h2⟩:=Right_is l zV hb1;simp only [jN,if_false,Qb,e2];cases b2 with
 | false=>exact ⟨false,by simp [Qb],fun h=>by cases h⟩
 | true =>
 have hr:=h2 rfl;obtain ⟨r3,er3⟩:=small11_L1 l zV (fun b hb=>(z0a (hr.1 b hb).1).1) l [] rfl;simp only [jK,jI] at er3;simp only [Qb,Bool.not_true,j5,if_false,er3];cases r3 with
 | inl u=>exact ⟨false,rfl,fun h=>by cases h⟩
 | inr u=>exact ⟨true,rfl,fun _=>⟨by omega,hb1,hr⟩⟩
theorem PsiElab_ok (l:List Qg) (t:Qc) (hb:numT t≤szT t * 140737488351232) (hn:namesOk t):QaE (l,t)=some true:=by
 obtain ⟨b1,e1,h1⟩:=Small11_e l;obtain ⟨b3,e3,h3⟩:=tSmall_ok t hb hn;unfold QaE;simp only [Qc5,Qb,jN,if_false,etaT,e1];cases b1 with
 | false=>simp
 | true =>
 have hl:=h1 rfl;simp only [Bool.not_true,j5,if_false,Qb,e3];cases b3 with
 | false=>simp
 | true =>
 obtain ⟨⟨f1,f2,f3⟩,_,hg⟩:=h3.1 rfl;obtain ⟨S,c,e,eE,hE,hE'⟩:=expr_e hl 60 t zV hg zV [] zW srcK.nil;simp only [List.map_nil] at hE hE';unfold QaX;simp only [Bool.not_true,j5,if_false,Qb,Make_is hl,eE];by_cases he:e=0
 case neg =>
  obtain ⟨c',l',q4⟩:=hE' he
  have eR:JI (l,t)=some (⟨zeroC,[]⟩,e):=by
   unfold JI;simp only [etaT,q4,Qb,ne_eq,he,z5,if_true];rfl
  simp [he,Qb,eR]
 subst he;obtain ⟨q1,q2,q3,q4⟩:=hE rfl;have hS:S.length≤1000:=by simp at q2; omega
 have eR:JI (l,t)=some (⟨bk c,S.map bkS⟩,0):=by
  unfold JI;simp only [etaT,q4,Qb,ne_eq,z3,if_false]
 obtain ⟨bf,ef,hf⟩:=Fits_tot (bk c) (S.map bkS) (by simpa using hS) (by rw [bk_shape]; have:=(checkR_zero.1 q1).2.1; omega);simp only [ne_eq,z3,if_false,Qb,eR,bne_self_eq_false,j5,ef];cases bf with
 | false=>simp
 | true =>
 obtain ⟨g1,g2,g3⟩:=hf rfl
 have hb':∀ s∈S.map bkS,s.value.shape.length≤1000∧s.value.data.length≤1000:=fun s hs=>by
  obtain ⟨x,hx,rfl⟩:=List.mem_map.1 hs;have:=q3.bd x hx;exact ⟨by show x.value.shape.length≤1000; omega,this.2.1⟩
 have hsr:srcF (shpS (S.map bkS)) (S.map bkS):=⟨rfl,fun s hs=>by
  obtain ⟨x,hx,rfl⟩:=List.mem_map.1 hs;exact (q3.bd x hx).2.2.2⟩
 have eD:=Denote_ok hsr g1 g2 g3;rw [conv_bk,elS_bkS] at eD
 have eV:QcA (l,t)=some (arrF (S.map bkS) (bk c),0):=by
  unfold QcA;simp only [etaT,eR,Qb,ne_eq,z3,if_false,Direct_ok hsr (bk c) _ (bk c) (j6 _) g1 g2 g3,etaR]
 have hsh:(arrF (S.map bkS) (bk c)).shape=c.shape:=bk_shape c;have hlen:=(checkR_zero.1 q1).2.1
 have hdl:(arrF (S.map bkS) (bk c)).data.length≤1000000:=by
  have hk:checkR (bk c).shape=0:=by rw [bk_shape]; exact q1
  have hln:=len_allL hk;obtain ⟨_,c2,_⟩:=z0a hk;show ((allL (bk c).shape).map _).length≤1000000
  rw [jW]; omega
 have eQ:=eqA (arrF (S.map bkS) (bk c)) (by rw [hsh]; omega) hdl;have eS:=Equal_ok c.shape c.shape (Sm_of (show c.shape.length≤1000 by omega));simp only [Bool.not_true,j5,if_false,Qb,etaC,Back15_ok g1 hS,Same15_ok g1 (show (S.map bkS).length≤1000 by simpa using hS) hb',jN,eD,eV,eQ,if_true,hsh,eS,decide_true]
set_option maxHeartbeats 2000000
theorem ua9:prog.underlying 9=some TypeDesc.string:=by kernel_rfl
theorem ua3:prog.underlying 3=some (TypeDesc.int IntKind.i64):=by kernel_rfl
theorem ua32:prog.underlying 32=some (TypeDesc.slice 3):=by kernel_rfl
theorem ua2:prog.underlying 2=some (TypeDesc.int IntKind.i64):=by kernel_rfl
theorem ua23:prog.underlying 23=some (TypeDesc.slice 2):=by kernel_rfl
theorem ua54 : prog.underlying 54 = some (TypeDesc.struct { toList := [{ name := "Shape", type := 32, offset := 0, embedded := false, tag := "", pkgPath := "", byteOffset := 0 }, { name := "Data", type := 23, offset := 1, embedded := false, tag := "", pkgPath := "", byteOffset := 24 }] }) := by kernel_rfl
theorem ua64 : prog.underlying 64 = some (TypeDesc.struct { toList := [{ name := "Name", type := 9, offset := 0, embedded := false, tag := "", pkgPath := "", byteOffset := 0 }, { name := "Value", type := 54, offset := 1, embedded := false, tag := "", pkgPath := "", byteOffset := 16 }] }) := by kernel_rfl
theorem ua22:prog.underlying 22=some (TypeDesc.slice 64):=by kernel_rfl
theorem ua26 : prog.underlying 26 = some (TypeDesc.struct { toList := [{ name := "Kind", type := 3, offset := 0, embedded := false, tag := "", pkgPath := "", byteOffset := 0 }, { name := "Fn", type := 3, offset := 1, embedded := false, tag := "", pkgPath := "", byteOffset := 8 }, { name := "Axis", type := 3, offset := 2, embedded := false, tag := "", pkgPath := "", byteOffset := 16 }, { name := "Name", type := 9, offset := 3, embedded := false, tag := "", pkgPath := "", byteOffset := 24 }, { name := "Nums", type := 23, offset := 4, embedded := false, tag := "", pkgPath := "", byteOffset := 40 }, { name := "Kids", type := 24, offset := 5, embedded := false, tag := "", pkgPath := "", byteOffset := 64 }] }) := by kernel_rfl
theorem ua24:prog.underlying 24=some (TypeDesc.slice 26):=by kernel_rfl
theorem ua4:prog.underlying 4=some TypeDesc.bool:=by kernel_rfl
theorem exists_map {α β:Type} {f:β→α} {p:β→Prop}:∀ {L:List α},(∀ x∈L,∃ y,x=f y∧p y)→∃ l:List β,L=l.map f∧∀ y∈l,p y
 | [],_=>⟨[],rfl,fun y h=>by cases h⟩
 | x::L,h=>by
  obtain ⟨y,rfl,hy⟩:=h x (jL ..);obtain ⟨l,rfl,hl⟩:=exists_map (fun x hx=>h x (jF _ hx))
  exact ⟨y::l,rfl,fun z hz=>by
   rcases List.mem_cons.1 hz with rfl|hz
   ·exact hy
   ·exact hl z hz⟩
variable {B:Nat} {n:Nat} {cs:List Dat}
theorem tc9 (h:TyC prog B n 9 cs):∃ m:ByteArray,cs=[strD m]∧m.size≤B:=by
 cases n with
 | zero=>exact h.elim
 | succ n =>
  simp only [TyC,ua9] at h;obtain ⟨m,rfl,hm⟩:=h;exact ⟨m,rfl,hm⟩
theorem tc3 (h:TyC prog B n 3 cs):∃ m:Int,cs=[(Qf m)]∧((-9223372036854775808)≤m∧m≤9223372036854775807):=by
 cases n with
 | zero=>exact h.elim
 | succ n =>
  simp only [TyC,ua3] at h;obtain ⟨m,rfl,hm⟩:=h;refine ⟨m,rfl,?_⟩
  simpa [Lit.wf,IntKind.min,IntKind.max,IntKind.signed,IntKind.bits] using hm
def ok32 (B:Nat) (x:(List Int)):Prop:=x.length≤B∧∀ m∈x,((-9223372036854775808)≤m∧m≤9223372036854775807)
theorem tc32 (h:TyC prog B n 32 cs):∃ l:(List Int),cs=[.lst ((List.map Qf) l)]∧ok32 B l:=by
 cases n with
 | zero=>exact h.elim
 | succ n =>
  simp only [TyC,ua32] at h;obtain ⟨L,rfl,hl,hx⟩:=h;obtain ⟨l,rfl,hm⟩:=exists_map (f:=fun m=>[(Qf m)]) (p:=fun m=>((-9223372036854775808)≤m∧m≤9223372036854775807)) (fun x hx'=>tc3 (hx x hx'));refine ⟨l,?_,by simpa using hl,hm⟩
  have e:(l.map (fun m=>[(Qf m)])).map (elemD prog 3)=l.map Qf:=by
   rw [z7]; exact List.map_congr_left (fun m _=>by simp only [Function.comp_apply]; simp [elemD,aggB,ua3])
  rw [e]
theorem tc2 (h:TyC prog B n 2 cs):∃ m:Int,cs=[(Qf m)]∧((-9223372036854775808)≤m∧m≤9223372036854775807):=by
 cases n with
 | zero=>exact h.elim
 | succ n =>
  simp only [TyC,ua2] at h;obtain ⟨m,rfl,hm⟩:=h;refine ⟨m,rfl,?_⟩
  simpa [Lit.wf,IntKind.min,IntKind.max,IntKind.signed,IntKind.bits] using hm
def ok23 (B:Nat) (x:(List Int)):Prop:=x.length≤B∧∀ m∈x,((-9223372036854775808)≤m∧m≤9223372036854775807)
theorem tc23 (h:TyC prog B n 23 cs):∃ l:(List Int),cs=[.lst ((List.map Qf) l)]∧ok23 B l:=by
 cases n with
 | zero=>exact h.elim
 | succ n =>
  simp only [TyC,ua23] at h;obtain ⟨L,rfl,hl,hx⟩:=h;obtain ⟨l,rfl,hm⟩:=exists_map (f:=fun m=>[(Qf m)]) (p:=fun m=>((-9223372036854775808)≤m∧m≤9223372036854775807)) (fun x hx'=>tc2 (hx x hx'));refine ⟨l,?_,by simpa using hl,hm⟩
  have e:(l.map (fun m=>[(Qf m)])).map (elemD prog 2)=l.map Qf:=by
   rw [z7]; exact List.map_congr_left (fun m _=>by simp only [Function.comp_apply]; simp [elemD,aggB,ua2])
  rw [e]
structure ok54 (B:Nat) (x:Qo):Prop where
 shape:(ok32 B x.shape)
 data:(ok23 B x.data)
theorem tc54 (h:TyC prog B n 54 cs):∃ x:Qo,cs=[(.lst ((List.map Qf) x.shape)),(.lst ((List.map Qf) x.data))]∧ok54 B x:=by
 cases n with
 | zero=>exact h.elim
 | succ n =>
  simp only [TyC,ua54,List.foldr] at h;obtain ⟨_,_,rfl,h0,_,_,rfl,h1,rfl⟩:=h;obtain ⟨m0,rfl,i0⟩:=tc32 h0;obtain ⟨m1,rfl,i1⟩:=tc23 h1;exact ⟨⟨m0,m1⟩,rfl,i0,i1⟩
structure ok64 (B:Nat) (x:Qg):Prop where
 name:(x.name.size≤B)
 value:(ok54 B x.value)
theorem tc64 (h:TyC prog B n 64 cs):∃ x:Qg,cs=[(strD x.name),(.lst ((List.map Qf) x.value.shape)),(.lst ((List.map Qf) x.value.data))]∧ok64 B x:=by
 cases n with
 | zero=>exact h.elim
 | succ n =>
  simp only [TyC,ua64,List.foldr] at h;obtain ⟨_,_,rfl,h0,_,_,rfl,h1,rfl⟩:=h;obtain ⟨m0,rfl,i0⟩:=tc9 h0;obtain ⟨m1,rfl,i1⟩:=tc54 h1;exact ⟨⟨m0,m1⟩,rfl,i0,i1⟩
def ok22 (B:Nat) (x:(List Qg)):Prop:=x.length≤B∧∀ m∈x,(ok64 B m)
theorem tc22 (h:TyC prog B n 22 cs):∃ l:(List Qg),cs=[.lst ((List.map Qg.toD) l)]∧ok22 B l:=by
 cases n with
 | zero=>exact h.elim
 | succ n =>
  simp only [TyC,ua22] at h;obtain ⟨L,rfl,hl,hx⟩:=h;obtain ⟨l,rfl,hm⟩:=exists_map (f:=fun m=>[(strD m.name),(.lst ((List.map Qf) m.value.shape)),(.lst ((List.map Qf) m.value.data))]) (p:=fun m=>(ok64 B m)) (fun x hx'=>tc64 (hx x hx'));refine ⟨l,?_,by simpa using hl,hm⟩
  have e:(l.map (fun m=>[(strD m.name),(.lst ((List.map Qf) m.value.shape)),(.lst ((List.map Qf) m.value.data))])).map (elemD prog 64)=l.map Qg.toD:=by
   rw [z7]; exact List.map_congr_left (fun m _=>by simp only [Function.comp_apply]; simp [elemD,aggB,ua64]; rfl)
  rw [e]
mutual
def ok26 (B:Nat):Qc→Prop
 | ⟨kind,fn,axis,name,nums,kids⟩=>(((-9223372036854775808)≤kind∧kind≤9223372036854775807))∧(((-9223372036854775808)≤fn∧fn≤9223372036854775807))∧(((-9223372036854775808)≤axis∧axis≤9223372036854775807))∧((name.size≤B))∧((ok23 B nums))∧(kids.length≤B∧okl26 B kids)
def okl26 (B:Nat):List Qc→Prop
 | []=>True
 | k::ks=>ok26 B k∧okl26 B ks
end
theorem okl26_of:∀ {l:List Qc},(∀ y∈l,ok26 B y)→okl26 B l
 | [],_=>by rw [okl26]; trivial
 | y::l,h=>by rw [okl26]; exact ⟨h y (jL ..),okl26_of fun z hz=>h z (jF _ hz)⟩
theorem ts26 (ih:∀ cs,TyC prog B n 24 cs→∃ l:List Qc,cs=[.lst (Qc.toDs l)]∧l.length≤B∧okl26 B l) (h:TyC prog B (n+1) 26 cs):∃ x:Qc,cs=[(Qf x.kind),(Qf x.fn),(Qf x.axis),(strD x.name),(.lst ((List.map Qf) x.nums)),(.lst (Qc.toDs x.kids))]∧ok26 B x:=by
 simp only [TyC,ua26,List.foldr] at h;obtain ⟨_,_,rfl,h0,_,_,rfl,h1,_,_,rfl,h2,_,_,rfl,h3,_,_,rfl,h4,_,_,rfl,h5,rfl⟩:=h;obtain ⟨m0,rfl,i0⟩:=tc3 h0;obtain ⟨m1,rfl,i1⟩:=tc3 h1;obtain ⟨m2,rfl,i2⟩:=tc3 h2;obtain ⟨m3,rfl,i3⟩:=tc9 h3;obtain ⟨m4,rfl,i4⟩:=tc23 h4;obtain ⟨m5,rfl,i5⟩:=ih _ h5;exact ⟨⟨m0,m1,m2,m3,m4,m5⟩,rfl,by rw [ok26]; exact ⟨i0,i1,i2,i3,i4,i5⟩⟩
theorem tl26 (ih:∀ cs,TyC prog B n 26 cs→∃ x:Qc,cs=[(Qf x.kind),(Qf x.fn),(Qf x.axis),(strD x.name),(.lst ((List.map Qf) x.nums)),(.lst (Qc.toDs x.kids))]∧ok26 B x) (h:TyC prog B (n+1) 24 cs):∃ l:List Qc,cs=[.lst (Qc.toDs l)]∧l.length≤B∧okl26 B l:=by
 simp only [TyC,ua24] at h;obtain ⟨L,rfl,hl,hx⟩:=h;obtain ⟨l,rfl,hm⟩:=exists_map (f:=fun (x:Qc)=>[(Qf x.kind),(Qf x.fn),(Qf x.axis),(strD x.name),(.lst ((List.map Qf) x.nums)),(.lst (Qc.toDs x.kids))]) (p:=fun x=>ok26 B x) (fun c hc=>ih c (hx c hc));refine ⟨l,?_,by simpa using hl,okl26_of hm⟩
 have e:(l.map (fun (x:Qc)=>[(Qf x.kind),(Qf x.fn),(Qf x.axis),(strD x.name),(.lst ((List.map Qf) x.nums)),(.lst (Qc.toDs x.kids))])).map (elemD prog 26)=Qc.toDs l:=by
  rw [Qc.toDs_eq,z7]; exact List.map_congr_left (fun m _=>by rw [Qc.toD_eq]; simp only [Function.comp_apply]; simp [elemD,aggB,ua26]; rfl)
 rw [e]
theorem tr26:∀ n,(∀ cs,TyC prog B n 26 cs→∃ x:Qc,cs=[(Qf x.kind),(Qf x.fn),(Qf x.axis),(strD x.name),(.lst ((List.map Qf) x.nums)),(.lst (Qc.toDs x.kids))]∧ok26 B x)∧(∀ cs,TyC prog B n 24 cs→∃ l:List Qc,cs=[.lst (Qc.toDs l)]∧l.length≤B∧okl26 B l)
 | 0=>⟨fun _ h=>h.elim,fun _ h=>h.elim⟩
 | n+1=>⟨fun _ h=>ts26 (tr26 n).2 h,fun _ h=>tl26 (tr26 n).1 h⟩
theorem tc26 (h:TyC prog B n 26 cs):∃ x:Qc,cs=[(Qf x.kind),(Qf x.fn),(Qf x.axis),(strD x.name),(.lst ((List.map Qf) x.nums)),(.lst (Qc.toDs x.kids))]∧ok26 B x:=(tr26 n).1 cs h
theorem ty22 {d:Dat} (h:TyA prog B 22 d):∃ m:(List Qg),d=(.lst ((List.map Qg.toD) m))∧(ok22 B m):=by
 obtain ⟨n,cs,h,hd⟩:=h;obtain ⟨m,rfl,hm⟩:=tc22 h;exact ⟨m,by rw [hd]; simp [elemD,aggB,ua22],hm⟩
theorem ty26 {d:Dat} (h:TyA prog B 26 d):∃ m:Qc,d=(Qc.ex m)∧(ok26 B m):=by
 obtain ⟨n,cs,h,hd⟩:=h;obtain ⟨m,rfl,hm⟩:=tc26 h;exact ⟨m,by rw [hd]; simp [elemD,aggB,ua26]; rfl,hm⟩
def argTs:List TypeId:=[9,3,32,2,23,54,64,22,26,24,4]
theorem argTs_closed:closedTs prog argTs=true:=by kernel_rfl
theorem laidOut:laidOutB prog=true:=by kernel_rfl
theorem summ:SummOK prog env:=fun f s h=>by cases h
theorem mixed:prog.follows .mixedOrders=true:=by kernel_rfl
theorem pure_of {f:FuncId} {dss:List Dat} {p:PV} (ho:p.out=true) (h:PC prog env f (dss.map .dat) [] p []):PureCall prog f dss p:=by
 obtain ⟨N,hN⟩:=h;exact pure_sound summ mixed (hN N (j6 _)) ho
mutual
theorem numT_le (B:Nat):∀ t:Qc,ok26 B t→numT t≤szT t * B
 | ⟨_,_,_,_,nums,kids⟩,h=>by
  rw [ok26] at h;have:=numTs_le B kids h.2.2.2.2.2.2;have:=h.2.2.2.2.1.1;rw [numT,szT,Nat.add_mul,Nat.one_mul]; omega
theorem numTs_le (B:Nat):∀ l:List Qc,okl26 B l→numTs l≤szTs l * B
 | [],_=>zH _
 | k::ks,h=>by
  rw [okl26] at h;have:=numT_le B k h.1;have:=numTs_le B ks h.2;rw [numTs,szTs,Nat.add_mul]; omega
end
mutual
theorem namesOk_of:∀ t:Qc,ok26 140737488351232 t→namesOk t
 | ⟨_,_,_,nm,_,ks⟩,h=>by
  rw [ok26] at h;rw [namesOk];exact ⟨by have:=h.2.2.2.1; unfold nmOk; omega,namesOks_of ks h.2.2.2.2.2.2⟩
theorem namesOks_of:∀ l:List Qc,okl26 140737488351232 l→namesOks l
 | [],_=>by rw [namesOks]; trivial
 | k::ks,h=>by
  rw [okl26] at h;rw [namesOks];exact ⟨namesOk_of k h.1,namesOks_of ks h.2⟩
end
theorem PsiElab_of (l:List Qg) (t:Qc) (h:ok26 140737488351232 t):QaE (l,t)=some true:=PsiElab_ok l t (numT_le _ t h) (namesOk_of t h)
end Go.Proofs.Tryz
