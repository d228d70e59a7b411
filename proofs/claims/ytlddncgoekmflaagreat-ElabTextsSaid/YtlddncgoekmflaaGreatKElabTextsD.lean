/-
 Models of functions, their walks, and plain laws.
-/
import Derived.Test.YtlddncgoekmflaaGreatPmLaw
import Derived.Test.YtlddncgoekmflaaGreatKElabTextsC
namespace Go.Proofs.Tryz
open Go Go.Pm
set_option linter.unusedVariables false
set_option linter.unusedSimpArgs false
set_option maxRecDepth 2000
mutual
def smD:Qc→Prop
 | ⟨_,shape,_,starts,_,_,perm,kids⟩=>shape.length≤40∧starts.length≤40∧perm.length≤40∧kids.length≤300∧smDs kids
def smDs:List Qc→Prop
 | []=>True
 | k::ks=>smD k∧smDs ks
end
theorem nd_len {bs:List (List Int)} {c:Qc} (h:nd bs c) (hk:∀ k∈c.kids,k.shape.length≤16):c.shape.length≤16∧c.starts.length≤16∧c.perm.length≤16∧c.kids.length≤2:=by
 cases h with
 | buf _ hs=>have:=(checkR_zero.1 hs).2.1; simp; omega
 | win hs h1 _ _=>have:=(checkR_zero.1 hs).2.1; simp; omega
 | rev hs _ _ _=>have:=(checkR_zero.1 hs).2.1; simp; omega
 | rot hs _ _ _ _=>have:=(checkR_zero.1 hs).2.1; simp; omega
 | @tra _ _ k hs h _ _=>have:=(checkR_zero.1 hs).2.1; have:=hk k (by simp); simp; omega
 | rsh hs=>have:=(checkR_zero.1 hs).2.1; simp; omega
 | cat hs _ _ _ _=>have:=(checkR_zero.1 hs).2.1; simp; omega
mutual
theorem okC_sm {bs:List (List Int)}:∀ c:Qc,okC bs c→smD c
 | ⟨k,s,b,st,ax,am,pe,ks⟩,h=>by
  rw [okC] at h
  have hk:∀ k∈ks,k.shape.length≤16:=fun x hx=>by
   have:=okCs_mem h.2 x hx
   exact (checkR_zero.1 (okC_f.1 this).1.2).2.1
  obtain ⟨h1,h2,h3,h4⟩:=nd_len h.1.1 hk
  simp only at h1 h2 h3 h4
  rw [smD]
  exact ⟨by omega,by omega,by omega,by omega,okCs_sm ks h.2⟩
theorem okCs_sm {bs:List (List Int)}:∀ l:List Qc,okCs bs l→smDs l
 | [],_=>trivial
 | k::ks,h=>by
  rw [okCs] at h
  rw [smDs]
  exact ⟨okC_sm k h.1,okCs_sm ks h.2⟩
end
theorem bks_len:∀ l:List Qc,(bks l).length=l.length
 | []=>rfl
 | _::l=>by rw [bks,List.length_cons,List.length_cons,bks_len l]
theorem bks_app:∀ a b:List Qc,bks (a++b)=bks a++bks b
 | [],b=>by rw [bks]; rfl
 | x::a,b=>by rw [List.cons_append,bks,bks,bks_app a b,List.cons_append]
theorem ap128 {l:List Qf} {v:Qf} (h:l.length≤1000):app 128 l [v]=some (l++[v]):=app_le2 (by simp; omega) (by omega)
theorem ap64 {l:List Qm} {v:Qm} (h:l.length≤1000):app 64 l [v]=some (l++[v]):=app_le2 (by simp; omega) (by omega)
theorem Qhj {α:Type} {p s:List α} {x:α} (h:p.length+(x::s).length≤300):W ((p.length:Int)+1)=((p++[x]).length:Int):=by
 simp at h
 rw [W_ok (by omega) (by omega)]; simp
mutual
theorem Back_ok:∀ c:Qc,smD c→JK c=some (bk c)
 | ⟨k,sh,b,st,ax,am,pe,ks⟩,h=>by
  rw [smD] at h
  have e:=Back_loop ks [] k sh b st ax am pe h.2.2.2.2 (by simpa using h.2.2.2.1)
  simp only [List.nil_append,List.length_nil,Int.natCast_zero,bks] at e
  rw [JK]
  simp only [e,Qd,bk]
theorem Back_loop:∀ (s p:List Qc) (k:Int) (sh:List Int) (b:Int) (st:List Int) (ax am:Int) (pe:List Int),smDs s→p.length+s.length≤300 →
  Yi (⟨k,sh,b,st,ax,am,pe,p++s⟩,bks p,(p.length:Int))=some (bks (p++s))
 | [],p,k,sh,b,st,ax,am,pe,h1,h2=>by
  rw [Yi]; simp only [List.append_nil,Int.lt_irrefl,if_false]
 | x::s,p,k,sh,b,st,ax,am,pe,h1,h2=>by
  rw [smDs] at h1
  have e:=Back_ok x h1.1
  have e':=Back_loop s (p++[x]) k sh b st ax am pe h1.2 (by simp at h2 ⊢; omega)
  rw [← Qz] at e'
  have ha:app 128 (bks p) [bk x]=some (bks (p++[x])):=by
   rw [ap128 (by rw [bks_len]; simp at h2; omega),bks_app,bks,bks]
  rw [Yi]
  simp only [Zi,if_true,QR,Qd,e,ha,Qhj h2,e']
end
theorem bsrc_L1 (c:Qc) (v:Qf) (S:List Ql) (hS:S.length≤1000):∀ (s p:List Ql),S=p++s→Y5 (⟨c,S⟩,v,p.map bkS,(p.length:Int))=some (S.map bkS)
 | [],p,e=>by
  rw [Y5]
  have:¬ ((p.length:Int) < (S.length:Int)):=by rw [e]; simp
  rw [if_neg this,e,List.append_nil]
 | x::s,p,e=>by
  have ih:=bsrc_L1 c v S hS s (p++[x]) (by rw [e]; simp)
  have h1:((p.length:Int) < (S.length:Int)):=by rw [e]; exact Zi
  have hi:idx S (p.length:Int)=some x:=by rw [e]; exact QR
  have hw:W ((p.length:Int)+1)=((p++[x]).length:Int):=by
   rw [e] at hS; exact mid_W (Sm_le hS)
  have hp:p.length≤S.length:=by rw [e]; simp
  have ha:app 64 (p.map bkS) ([(⟨x.name,x.value⟩:Qm)]:List Qm)=some ((p++[x]).map bkS):=by
   rw [ap64 (by simp; omega),List.map_append]; rfl
  rw [Y5]
  simp only [h1,if_true,hi,Qd,ha,hw,ih]
theorem Back15_ok {c:Qc} {S:List Ql} (hc:smD c) (hS:S.length≤1000):Qbr ⟨c,S⟩=some ⟨bk c,S.map bkS⟩:=by
 have e:=bsrc_L1 c (bk c) S hS S [] rfl
 simp only [List.length_nil,Int.natCast_zero,List.map_nil] at e
 unfold Qbr
 simp only [etaC,Back_ok c hc,Qd,e]
mutual
theorem rSame_ok:∀ c:Qc,smD c→JL (bk c,bk c)=some true
 | ⟨k,sh,b,st,ax,am,pe,ks⟩,h=>by
  rw [smD] at h
  have e:=rSame_loop ks [] k sh b st ax am pe h.2.2.2.2 (by simpa using h.2.2.2.1)
  simp only [List.nil_append,List.length_nil,Int.natCast_zero] at e
  have e1:=fun (l:List Int) (hl:l.length≤40)=>Equal_ok l l (Sm_of (show l.length≤1000 by omega))
  rw [bk,JL]
  simp only [ne_eq,not_true_eq_false,if_false,bne_self_eq_false,Qd,Bool.false_eq_true,e1 sh h.1,e1 st h.2.1,e1 pe h.2.2.1,decide_true,Bool.not_true,e]
theorem rSame_loop:∀ (s p:List Qc) (k:Int) (sh:List Int) (b:Int) (st:List Int) (ax am:Int) (pe:List Int),smDs s→p.length+s.length≤300 →
  Yj (⟨k,sh,b,st,ax,am,pe,bks (p++s)⟩,⟨k,sh,b,st,ax,am,pe,bks (p++s)⟩,(p.length:Int))=some (.inr ())
 | [],p,k,sh,b,st,ax,am,pe,h1,h2=>by
  rw [Yj]
  have:¬ ((p.length:Int) < ((bks (p++[])).length:Int)):=by rw [bks_len]; simp
  simp only [this,if_false]
 | x::s,p,k,sh,b,st,ax,am,pe,h1,h2=>by
  rw [smDs] at h1
  have e:=rSame_ok x h1.1
  have e':=rSame_loop s (p++[x]) k sh b st ax am pe h1.2 (by simp at h2 ⊢; omega)
  rw [← Qz] at e'
  have h3:((p.length:Int) < ((bks (p++x::s)).length:Int)):=by rw [bks_len]; exact Zi
  have h4:idx (bks (p++x::s)) (p.length:Int)=some (bk x):=by rw [bks_app,bks,← bks_len p]; exact QR
  rw [Yj]
  simp only [h3,if_true,h4,Qd,e,Bool.true_eq_false,if_false,Qhj h2,e']
end
theorem eqA_L1 (a:Qq) (h:a.data.length≤1000):∀ (s p:List Int),a.data=p++s→YI (a,a,(p.length:Int))=some (.inr ())
 | [],p,e=>by
  rw [YI]
  have:¬ ((p.length:Int) < (a.data.length:Int)):=by rw [e]; simp
  rw [if_neg this]
 | x::s,p,e=>by
  have ih:=eqA_L1 a h s (p++[x]) (by rw [e]; simp)
  have h1:((p.length:Int) < (a.data.length:Int)):=by rw [e]; exact Zi
  have hi:idx a.data (p.length:Int)=some x:=by rw [e]; exact QR
  have hw:W ((p.length:Int)+1)=((p++[x]).length:Int):=by rw [e] at h; exact mid_W (Sm_le h)
  rw [YI]
  simp only [h1,if_true,hi,Qd,ne_eq,not_true_eq_false,if_false,hw,ih]
theorem eqA {a:Qq} (h1:a.shape.length≤1000) (h2:a.data.length≤1000):QaX (a,a)=some true:=by
 have e:=eqA_L1 a h2 a.data [] rfl
 simp only [List.length_nil,Int.natCast_zero] at e
 simp only [QaX,Equal_ok _ _ (Sm_of h1),decide_true,Qd,Bool.true_eq_false,if_false,bne_self_eq_false,Bool.false_eq_true,e]
theorem sms_L1 (S:List Qm) (hS:S.length≤1000) (hb:∀ s∈S,s.value.shape.length≤1000∧s.value.data.length≤1000):∀ (s p:List Qm),S=p++s→ZG (S,S,(p.length:Int))=some (.inr ())
 | [],p,e=>by
  rw [ZG]
  have:¬ ((p.length:Int) < (S.length:Int)):=by rw [e]; simp
  rw [if_neg this]
 | x::s,p,e=>by
  have ih:=sms_L1 S hS hb s (p++[x]) (by rw [e]; simp)
  have h1:((p.length:Int) < (S.length:Int)):=by rw [e]; exact Zi
  have hi:idx S (p.length:Int)=some x:=by rw [e]; exact QR
  have hw:W ((p.length:Int)+1)=((p++[x]).length:Int):=by
   rw [e] at hS; exact mid_W (Sm_le hS)
  have hx:=hb x (by rw [e]; simp)
  rw [ZG]
  simp only [h1,if_true,hi,Qd,ne_eq,not_true_eq_false,if_false,eqA hx.1 hx.2,Bool.not_true,Bool.false_eq_true,hw,ih]
theorem Same15_ok {c:Qc} {S:List Qm} (hc:smD c) (hS:S.length≤1000) (hb:∀ s∈S,s.value.shape.length≤1000∧s.value.data.length≤1000):Qbw (⟨bk c,S⟩,⟨bk c,S⟩)=some true:=by
 have e:=sms_L1 S hS hb S [] rfl
 simp only [List.length_nil,Int.natCast_zero] at e
 unfold Qbw Jp
 simp only [etaR,rSame_ok c hc,Qd,if_true,ne_eq,not_true_eq_false,if_false,e]
mutual
theorem cSame_ok:∀ c:Qc,smD c→Qao (c,c)=some true
 | ⟨k,sh,b,st,ax,am,pe,ks⟩,h=>by
  rw [smD] at h
  have e:=cSame_loop ks [] h.2.2.2.2 (by simpa using h.2.2.2.1)
  simp only [List.nil_append,List.length_nil,Int.natCast_zero] at e
  have e2:QC (ks,ks)=some true:=by
   rw [QC]
   simp only [ne_eq,not_true_eq_false,if_false,e,Qd]
  rw [Qao]
  simp only [if_true,sEqual_ok sh sh (Sm_of (show sh.length≤1000 by omega)),gEqual_ok st st (Sm_of (show st.length≤1000 by omega)),gEqual_ok pe pe (Sm_of (show pe.length≤1000 by omega)),decide_true,Qd,beq_self_eq_true,e2]
theorem cSame_loop:∀ (s p:List Qc),smDs s→p.length+s.length≤300→Qs (p++s,p++s,(p.length:Int))=some (.inr ())
 | [],p,h1,h2=>by
  rw [Qs]
  simp only [Z4,if_false]
 | x::s,p,h1,h2=>by
  rw [smDs] at h1
  have e:=cSame_ok x h1.1
  have e':=cSame_loop s (p++[x]) h1.2 (by simp at h2 ⊢; omega)
  rw [← Qz] at e'
  rw [Qs]
  simp only [Zi,if_true,QR,Qd,e,Bool.true_eq_false,if_false,Qhj h2,e']
end
theorem e64_L1:∀ (s p:List Int),(p++s).length≤1000→Q6 (p++s,p++s,(p.length:Int))=some (.inr ())
 | [],p,h=>by rw [Q6]; simp only [Z4,if_false]
 | x::s,p,h=>by
  have ih:=e64_L1 s (p++[x]) (by rw [← Qz]; exact h)
  rw [← Qz] at ih
  rw [Q6]
  simp only [Zi,if_true,QR,Qd,ne_eq,not_true_eq_false,if_false,mid_W (Sm_le h),ih]
theorem aEq {a:Qq} (h1:a.shape.length≤1000) (h2:a.data.length≤1000):QaU (a,a)=some true:=by
 have e:=e64_L1 a.data [] h2
 simp only [List.nil_append,List.length_nil,Int.natCast_zero] at e
 simp only [QaU,sEqual_ok _ _ (Sm_of h1),decide_true,Qd,if_true,Y2,ne_eq,not_true_eq_false,if_false,e]
theorem eS_L1 (hb:∀ s:Ql,s.value.shape.length≤1000∧s.value.data.length≤1000→QaV (s,s)=some true):∀ (s p:List Ql),(p++s).length≤1000→(∀ x∈s,x.value.shape.length≤1000∧x.value.data.length≤1000) →
  Qu (p++s,p++s,(p.length:Int))=some (.inr ())
 | [],p,h,_=>by rw [Qu]; simp only [Z4,if_false]
 | x::s,p,h,hs=>by
  have ih:=eS_L1 hb s (p++[x]) (by rw [← Qz]; exact h) (fun y hy=>hs y (List.mem_cons_of_mem _ hy))
  rw [← Qz] at ih
  rw [Qu]
  simp only [Zi,if_true,QR,Qd,hb x (hs x (List.mem_cons_self ..)),Bool.true_eq_false,if_false,mid_W (Sm_le h),ih]
theorem eSame_ok {c:Qc} {S:List Ql} (hc:smD c) (hS:S.length≤1000) (hb:∀ s∈S,s.value.shape.length≤1000∧s.value.data.length≤1000):QbX (⟨c,S⟩,⟨c,S⟩)=some true:=by
 have e:=eS_L1 (fun s h=>by simp only [QaV,if_true]; rw [show (⟨s.value.shape,s.value.data⟩:Qq)=s.value from rfl,aEq h.1 h.2]; rfl) S [] hS hb
 simp only [List.nil_append,List.length_nil,Int.natCast_zero] at e
 unfold QbX QG
 simp only [etaC,cSame_ok c hc,Qd,if_true,ne_eq,not_true_eq_false,if_false,e]
def tokG (t:Qn):Prop:=(t.kind=1∧ZR t.text=some true)∨(t.kind=2∧i64 t.n)∨t.kind=3
def tsum:List Qn→Nat
 | []=>0
 | t::ts=>t.text.size+tsum ts
theorem take_all:∀ (s:List UInt8),∀ c∈s.takeWhile wordc,wordc c=true
 | [],c,h=>by simp at h
 | d::s,c,h=>by
  rw [List.takeWhile_cons] at h
  by_cases hd:wordc d=true
  ·rw [if_pos hd] at h
   rcases List.mem_cons.1 h with rfl|h
   ·exact hd
   ·exact take_all s c h
  ·rw [if_neg hd] at h; simp at h
theorem take_self (s:List UInt8):(s.takeWhile wordc++s.dropWhile wordc)=s:=List.takeWhile_append_dropWhile
theorem Name_word {w w':List UInt8} {c:UInt8} (hc:w=c::w') (hL:lt (c.toNat:Int)=true) (hw:∀ d∈w,wordc d=true) (hs:w.length≤1000000):ZR (B w)=some true:=by
 unfold ZR
 have h0:(w.length:Int) > 0:=by rw [hc,List.length_cons]; omega
 have e0:sidx (B w) 0=some (c.toNat:Int):=by rw [hc]; exact sidx_0 w' c
 have e1:=end_ok (p:=[]) (s:=w) (l:=w) (i:=0) rfl hs rfl
 have e2:w.takeWhile wordc=w:=by
  have:=word_word w hw [] (by simp)
  simpa using this
 rw [e2] at e1
 simp only [B_size,h0,if_true,e0,letter_eq,hL,Qd,e1,List.length_nil,Nat.zero_add,beq_self_eq_true]
def tokR (s:List UInt8) (out:List Qn) (r:Nat ⊕ List Qn):Prop :=
 ∀ ts,r=.inr ts→∃ new,ts=out++new∧(∀ t∈new,tokG t)∧new.length≤s.length∧tsum new≤s.length
theorem tokR_step {s m s2:List UInt8} {out:List Qn} {t:Qn} {r:Nat ⊕ List Qn} (hs:s=m++s2) (hm:1≤m.length) (ht:tokG t) (hz:t.text.size≤m.length) (h:tokR s2 (out++[t]) r):tokR s out r:=by
 intro ts e
 obtain ⟨new,h1,h2,h3,h4⟩:=h ts e
 refine ⟨t::new,by rw [h1]; simp,fun x hx=>?_,?_,?_⟩
 ·rcases List.mem_cons.1 hx with rfl|hx
  ·exact ht
  ·exact h2 x hx
 ·rw [hs]; simp; omega
 ·rw [hs,tsum]; simp; omega
theorem toks_tot:∀ (n:Nat) (s p l:List UInt8) (out:List Qn),s.length≤n→l=p++s→l.length≤65536→out.length≤p.length→∃ r,QL (B l,out,(p.length:Int))=some r∧tokR s out r
 | n,[],p,l,out,hn,hl,hs,ho=>by
  refine ⟨_,lex_end (by rw [hl]; simp),fun ts e=>?_⟩
  cases e
  exact ⟨[],by simp,by simp,by simp,by simp [tsum]⟩
 | 0,c::s,p,l,out,hn,hl,hs,ho=>by simp at hn
 | n+1,c::s0,p,l,out,hn,hl,hs,ho=>by
  have hlen:l.length=p.length+(c::s0).length:=by rw [hl]; simp
  by_cases hsp:sp c
  ·rw [lex_sp hl hs hsp]
   obtain ⟨r,e,hr⟩:=toks_tot n s0 (p++[c]) l out (by simp at hn; omega) (by rw [hl]; simp) hs (by simp; omega)
   refine ⟨r,e,fun ts q=>?_⟩
   obtain ⟨new,h1,h2,h3,h4⟩:=hr ts q
   exact ⟨new,h1,h2,by simp; omega,by simp; omega⟩
  ·by_cases hL:lt (c.toNat:Int)=true
   ·have hc:wordc c=true:=by unfold wordc; rw [hL]; rfl
    have hw:(c::s0).takeWhile wordc=c::s0.takeWhile wordc:=by rw [List.takeWhile_cons,if_pos hc]
    have hts:=take_self (c::s0)
    have hall:=take_all (c::s0)
    rw [hw] at hts hall
    have hl2:l=p++((c::s0.takeWhile wordc)++(c::s0).dropWhile wordc):=by rw [hl,hts]
    have hlen2:=congrArg List.length hts
    rw [List.length_append] at hlen2
    rw [lex_word hl2 hs (by omega) rfl hsp hL (by rw [hts,hw])]
    obtain ⟨r,e,hr⟩:=toks_tot n ((c::s0).dropWhile wordc) (p++(c::s0.takeWhile wordc)) l (out++[⟨1,B (c::s0.takeWhile wordc),0⟩]) (by simp at hn hlen2 ⊢; omega) (by rw [hl2]; simp) hs (by simp; omega)
    exact ⟨r,e,tokR_step hts.symm (by simp) (Or.inl ⟨rfl,Name_word (w:=c::s0.takeWhile wordc) rfl hL hall (by simp at hlen2 hlen ⊢; omega)⟩) (by show (B _).size≤_; rw [B_size]; omega) hr⟩
   ·have hL':lt (c.toNat:Int)=false:=by simpa using hL
    obtain ⟨sg,s1,hsg,hsl⟩:∃ sg s1:List UInt8,c::s0=sg++s1∧sg.length=if pre [194,175] (c::s0)=true then 2 else 0:=by
     by_cases hb:pre [194,175] (c::s0)=true
     ·obtain ⟨r,e⟩:=pre_len hb
      exact ⟨[194,175],r,e,by rw [if_pos hb]; rfl⟩
     ·exact ⟨[],c::s0,rfl,by rw [if_neg hb]; rfl⟩
    have hts:=take_self s1
    have hl2:l=p++(sg++(s1.takeWhile wordc++s1.dropWhile wordc)):=by rw [hts,← hsg]; exact hl
    have hlen2:=congrArg List.length hts
    have hlen3:=congrArg List.length hsg
    rw [List.length_append] at hlen2 hlen3
    have key:=lex_num0 (out:=out) (c:=c) (w':=s0) hl2 hs (by omega) (by rw [hts,← hsg]) hsp hL' (by rw [hts,← hsg]) hsl (by rw [hts])
    rw [hts,← hsg] at key
    rw [key]
    by_cases hz:(s1.takeWhile wordc).length > 0
    ·obtain ⟨v,ok,ev,hv⟩:=value_tot (s1.takeWhile wordc) (pre [194,175] (c::s0)) (by omega)
     simp only [hz,if_true,ev,Qd]
     cases ok with
     | false=>exact ⟨_,rfl,fun ts q=>by cases q⟩
     | true =>
      simp only [Bool.true_eq_false,if_false]
      obtain ⟨r,e,hr⟩:=toks_tot n (s1.dropWhile wordc) (p++(sg++s1.takeWhile wordc)) l (out++[⟨2,B (sg++s1.takeWhile wordc),v⟩]) (by omega) (by rw [hl2]; simp) hs (by simp; omega)
      exact ⟨r,e,tokR_step (m:=sg++s1.takeWhile wordc) (by rw [hsg,List.append_assoc,hts]) (by simp; omega) (Or.inr (Or.inl ⟨rfl,hv⟩)) (by show (B _).size≤_; rw [B_size]; omega) hr⟩
    ·simp only [hz,if_false]
     by_cases hf:fnd GL (c::s0) []=[]
     ·simp only [hf,if_true]
      exact ⟨_,rfl,fun ts q=>by cases q⟩
     ·simp only [hf,if_false]
      rcases fnd_len (c::s0) with h|⟨r2,h⟩
      ·exact absurd h hf
      ·generalize fnd GL (c::s0) []=g at hf h
       have hg:1≤g.length:=by
        cases g with
        | nil=>exact absurd rfl hf
        | cons a g=>simp
       have hlen4:=congrArg List.length h
       rw [List.length_append] at hlen4
       obtain ⟨r,e,hr⟩:=toks_tot n r2 (p++g) l (out++[⟨3,B g,0⟩]) (by omega) (by rw [hl,h]; simp) hs (by simp; omega)
       exact ⟨r,e,tokR_step h hg (Or.inr (Or.inr rfl)) (by show (B _).size≤_; rw [B_size]; omega) hr⟩
theorem Tokens_tot (s:List UInt8):∃ ts ok,Qar (B s)=some (ts,ok)∧ts.length≤65536∧(∀ t∈ts,tokG t)∧ts.length≤s.length∧tsum ts≤s.length∧tsum ts≤65536:=by
 unfold Qar
 simp only [B_size]
 by_cases h:(s.length:Int) > 65536
 ·simp only [h,if_true]
  exact ⟨[],false,rfl,by simp,by simp,by simp,by simp [tsum],by simp [tsum]⟩
 ·obtain ⟨r,e,hr⟩:=toks_tot s.length s [] s [] (Nat.le_refl _) rfl (by omega) (by simp)
  simp only [List.length_nil,Int.natCast_zero] at e
  simp only [h,if_false,e,Qd]
  cases r with
  | inl u=>exact ⟨[],false,rfl,by simp,by simp,by simp,by simp [tsum],by simp [tsum]⟩
  | inr ts =>
   obtain ⟨new,h1,h2,h3,h4⟩:=hr ts rfl
   simp at h1
   subst h1
   exact ⟨_,_,rfl,by omega,h2,h3,h4,by omega⟩
abbrev Tk:=Qn
def glyphO (o:Option Tk) (g:ByteArray):Bool:=match o with
 | some t=>decide (t.kind=3) && decide (t.text=g)
 | none=>false
theorem idx_none {α:Type} {l:List α} {i:Int} (h:i < 0∨(l.length:Int)≤i):idx l i=none:=by
 unfold idx
 split
 ·rw [List.getElem?_eq_none]; omega
 ·rfl
theorem idx_some {α:Type} {l:List α} {i:Int} (h0:0≤i) (h:i < (l.length:Int)):∃ x,idx l i=some x∧∃ n:Nat,i=n∧l[n]? = some x:=by
 unfold idx
 rw [if_pos h0]
 have:i.toNat < l.length:=by omega
 exact ⟨l[i.toNat],List.getElem?_eq_getElem this,i.toNat,by omega,List.getElem?_eq_getElem this⟩
theorem glyph_eq (l:List Tk) (i:Int) (g:ByteArray):Yw (l,i,g)=some (glyphO (idx l i) g):=by
 unfold Yw
 simp only []
 by_cases h0:i≥0
 ·by_cases h1:i < (l.length:Int)
  ·obtain ⟨x,e,_⟩:=idx_some h0 h1
   simp only [h0,h1,if_true,decide_true,Qd,e,glyphO]
   by_cases hk:x.kind=3
   ·simp [hk]
   ·simp [hk]
  ·have e:idx l i=none:=idx_none (Or.inr (by omega))
   simp [h0,h1,Qd,e,glyphO]
 ·have e:idx l i=none:=idx_none (Or.inl (by omega))
  simp [h0,Qd,e,glyphO]
theorem fn_step (t:Tk) (i:Nat) (g:ByteArray) (h:idx ([(⟨#[226,134,145]⟩:ByteArray),(⟨#[226,134,147]⟩:ByteArray),(⟨#[226,140,189]⟩:ByteArray),(⟨#[226,141,137]⟩:ByteArray),(⟨#[226,141,180]⟩:ByteArray),(⟨#[44]⟩:ByteArray)]:List ByteArray) (i:Int)=some g) (hi:i < 6) :
  YS (t,(i:Int))=if t.kind=3∧t.text=g then some (.inl ((i+1:Nat):Int)) else YS (t,((i+1:Nat):Int)):=by
 rw [YS]
 have h1:(i:Int) < (([(⟨#[226,134,145]⟩:ByteArray),(⟨#[226,134,147]⟩:ByteArray),(⟨#[226,140,189]⟩:ByteArray),(⟨#[226,141,137]⟩:ByteArray),(⟨#[226,141,180]⟩:ByteArray),(⟨#[44]⟩:ByteArray)]:List ByteArray).length:Int):=by
  show (i:Int) < 6; omega
 have w:W ((i:Int)+1)=((i+1:Nat):Int):=W_succ (by omega)
 simp only [h1,if_true,h,Qd,w]
 by_cases hk:t.kind=3
 ·by_cases ht:t.text=g
  ·simp [hk,ht]
  ·simp [hk,ht]
 ·simp [hk]
theorem fn_end (t:Tk):YS (t,((6:Nat):Int))=some (.inr ()):=by
 rw [YS]
 exact if_neg (by decide)
def fnV (t:Tk):Int:=if t.kind=3∧t.text=B [226,134,145] then 1 else if t.kind=3∧t.text=B [226,134,147] then 2 else if t.kind=3∧t.text=B [226,140,189] then 3 else if t.kind=3∧t.text=B [226,141,137] then 4 else if t.kind=3∧t.text=B [226,141,180] then 5 else if t.kind=3∧t.text=B [44] then 6 else 0
theorem fn_eq (t:Tk):Jn t=some (fnV t):=by
 unfold Jn fnV
 dsimp only
 have e0:=fn_step t 0 (B [226,134,145]) rfl (by omega)
 simp only [Int.natCast_zero,Nat.zero_add] at e0
 rw [e0,fn_step t 1 (B [226,134,147]) rfl (by omega),fn_step t 2 (B [226,140,189]) rfl (by omega),fn_step t 3 (B [226,141,137]) rfl (by omega),fn_step t 4 (B [226,141,180]) rfl (by omega),fn_step t 5 (B [44]) rfl (by omega),fn_end]
 split
 ·rfl
 ·split
  ·rfl
  ·split
   ·rfl
   ·split
    ·rfl
    ·split
     ·rfl
     ·split
      ·rfl
      ·rfl
theorem fnV_in (t:Tk):0≤fnV t∧fnV t≤6:=by
 unfold fnV
 repeat' split
 all_goals omega
def wsum:List Tk→Nat
 | []=>0
 | t::ts=>80+t.text.size+wsum ts
theorem wsum_app:∀ a b:List Tk,wsum (a++b)=wsum a+wsum b
 | [],b=>by simp [wsum]
 | t::a,b=>by rw [List.cons_append,wsum,wsum,wsum_app a b]; omega
theorem wsum_eq:∀ l:List Tk,wsum l=80 * l.length+tsum l
 | []=>rfl
 | t::a=>by rw [wsum,tsum,wsum_eq a,List.length_cons]; omega
theorem wsum_split (l:List Tk) {a b:Nat} (h:a≤b):wsum (l.take b)=wsum (l.take a)+wsum ((l.take b).drop a):=by
 rw [← wsum_app]
 congr 1
 have:=List.take_append_drop a (l.take b)
 rw [List.take_take,Nat.min_eq_left h] at this
 exact this.symm
theorem wsum_len (l:List Tk):80 * l.length≤wsum l:=by rw [wsum_eq]; omega
theorem wsum_mono (l:List Tk) {a b:Nat} (h:a≤b) (hb:b≤l.length):wsum (l.take a)+80 * (b - a)≤wsum (l.take b):=by
 rw [wsum_split l h]
 have:=wsum_len ((l.take b).drop a)
 rw [List.length_drop,List.length_take,Nat.min_eq_left hb] at this
 omega
theorem wsum_step (l:List Tk) {k:Nat} {x:Tk} (h:l[k]? = some x):wsum (l.take (k+1))=wsum (l.take k)+(80+x.text.size):=by
 rw [List.take_add_one,h,wsum_app]
 simp [wsum]
def tksG (l:List Tk):Prop:=l.length≤65536∧∀ t∈l,tokG t∧t.text.size≤65536
structure prs (l:List Tk) (t:Qa) (n' n:Nat):Prop where
 gd:good t
 nm:namesOk t
 sz:szT t+n'≤n
 num:numT t+n'≤n
 wt:wT t+wsum (l.take n')≤wsum (l.take n)
theorem good_low {t:Qa} (h:formF t) (hk:t.kids=[]):good t:=by
 rw [good_f,hk,goods]; exact ⟨h,trivial⟩
theorem nums_tot (l:List Tk) (hl:tksG l):∀ (n:Nat) (acc:List Int),n≤l.length→acc.length+n≤100000→nuOk acc→∃ acc' n',Ye (l,acc,(n:Int) - 1)=some (acc',((n':Nat):Int) - 1)∧n'≤n∧acc'.length+n'=acc.length+n∧nuOk acc'∧(∀ x,l[n - 1]? = some x→x.kind=2→1≤n→n' < n)
 | 0,acc,h,ha,hn=>by
  refine ⟨acc,0,?_,Nat.le_refl _,rfl,hn,fun x _ _ h=>by omega⟩
  rw [Ye]
  simp [Qd]
 | n+1,acc,h,ha,hn=>by
  rw [Ye]
  have e0:((n+1:Nat):Int) - 1=(n:Int):=by omega
  have h0:(n:Int)≥0:=by omega
  have hi:idx l (n:Int)=some l[n]:=idx_ok (by omega)
  have hg:l[n]? = some l[n]:=List.getElem?_eq_getElem (by omega)
  simp only [e0,h0,if_true,hi,Qd]
  by_cases hk:l[n].kind=2
  ·have hr:i64 l[n].n:=by
    rcases (hl.2 l[n] (List.getElem_mem _)).1 with q|q|q
    ·omega
    ·exact q.2
    ·omega
   have w:W ((n:Int) - 1)=(n:Int) - 1:=W_ok (by omega) (by omega)
   have ea:app 8 ([l[n].n]:List Int) acc=some (l[n].n::acc):=room_app (by simp; omega) (by omega)
   obtain ⟨acc',n',e,h1,h2,h3,_⟩:=nums_tot l hl n (l[n].n::acc) (by omega) (by simp; omega) (fun x hx=>by
    rcases List.mem_cons.1 hx with rfl|hx
    ·exact hr
    ·exact hn x hx)
   simp only [hk,beq_self_eq_true,if_true,ea,Qd,w]
   refine ⟨acc',n',e,by omega,by simp at h2; omega,h3,fun _ _ _ _=>by omega⟩
  ·have hkb:(l[n].kind == 2)=false:=by simpa using hk
   simp only [hkb,Bool.false_eq_true,if_false]
   refine ⟨acc,n+1,by rw [e0],Nat.le_refl _,rfl,hn,fun x hx hx2 _=>?_⟩
   simp only [Nat.add_sub_cancel,hg] at hx
   cases hx
   exact absurd hx2 hk
theorem ite_ex {c:Prop} [Decidable c] {α:Type} {a b:α} {P:α→Prop} (ha:c→P a) (hb:¬ c→P b):P (if c then a else b):=by
 split
 ·exact ha ‹_›
 ·exact hb ‹_›
theorem open_tot (l:List Tk) (hl:l.length≤65536):∀ (n:Nat) (c:Int),n≤l.length→∃ r,YB (l,c,(n:Int) - 1)=some r∧∀ j,r=.inl j→∃ k:Nat,j=(k:Int)∧k < n
 | 0,c,h=>by
  rw [YB]
  have:¬ (((0:Nat):Int) - 1≥0):=by omega
  simp only [this,if_false]
  exact ⟨_,rfl,fun j e=>by cases e⟩
 | n+1,c,h=>by
  rw [YB]
  have e0:((n+1:Nat):Int) - 1=(n:Int):=by omega
  have h0:(n:Int)≥0:=by omega
  have w:W ((n:Int) - 1)=(n:Int) - 1:=W_ok (by omega) (by omega)
  simp only [e0,h0,if_true,glyph_eq,Qd,ite_b,w]
  refine ite_ex (P:=fun (o:Option (Int ⊕ Unit))=>∃ r,o=some r∧∀ j,r=Sum.inl j→∃ k:Nat,j=(k:Int)∧k < n+1) (fun _=>⟨_,rfl,fun j e=>⟨n,(Sum.inl.inj e).symm,by omega⟩⟩) (fun _=>?_)
  obtain ⟨r,e,hr⟩:=open_tot l hl n _ (by omega)
  refine ⟨r,e,fun j q=>?_⟩
  obtain ⟨k,h1,h2⟩:=hr j q
  exact ⟨k,h1,by omega⟩
theorem glyph_ne {o:Option Tk} {a b:ByteArray} (h:glyphO o a=true) (hab:a≠b):glyphO o b=false:=by
 unfold glyphO at *
 cases o with
 | none=>rfl
 | some t =>
  simp only [Bool.and_eq_true,decide_eq_true_eq] at h
  simp only [Bool.and_eq_false_iff,decide_eq_false_iff_not]
  exact Or.inr (fun q=>hab (h.2.symm.trans q))
theorem ne4041:(⟨#[41]⟩:ByteArray)≠⟨#[40]⟩:=by
 have h:B [41]≠B [40]:=fun q=>by rw [B_inj] at q; simp at q
 exact h
theorem open_ok (l:List Tk) (hl:l.length≤65536) (k:Nat) (hk:k < l.length) (hg:glyphO (idx l (k:Int)) (⟨#[41]⟩:ByteArray)=true):∃ j,Qbu (l,(k:Int))=some j∧(j < 0∨∃ q:Nat,j=(q:Int)∧q < k):=by
 unfold Qbu
 dsimp only
 rw [YB]
 have h0:(k:Int)≥0:=by omega
 have w:W ((k:Int) - 1)=(k:Int) - 1:=W_ok (by omega) (by omega)
 have w1:W (0+1)=1:=by decide
 have h1:¬ ((1:Int)=0):=by decide
 simp only [h0,if_true,glyph_eq,hg,glyph_ne hg ne4041,Qd,w,w1,Bool.false_eq_true,if_false,h1]
 obtain ⟨r,e,hr⟩:=open_tot l hl k 1 (by omega)
 simp only [e,Qd]
 cases r with
 | inl j =>
  obtain ⟨q,h1,h2⟩:=hr j rfl
  exact ⟨j,rfl,Or.inr ⟨q,h1,h2⟩⟩
 | inr u=>exact ⟨-1,rfl,Or.inl (by omega)⟩
theorem W_sm {n:Int} (h1:-100000≤n) (h2:n≤100000):W n=n:=W_ok (by omega) (by omega)
def fnR (n:Nat) (o:Option (Int × Int × Int × Bool)):Prop:=∃ f ax j ok,o=some (f,ax,j,ok) ∧
 (ok=true→∃ n':Nat,j=(n':Int) - 1∧n' < n∧1≤f∧f≤6∧(ax=-1∨(axF ax∧(f=3∨f=6))))
theorem func_tot (l:List Tk) (hl:l.length≤65536) (n:Nat) (hn:n≤l.length):fnR n (Jy (l,(n:Int) - 1)):=by
 unfold Jy
 dsimp only
 simp only [glyph_eq,Qd]
 by_cases hg:glyphO (idx l ((n:Int) - 1)) (⟨#[93]⟩:ByteArray)=true
 ·simp only [hg,if_true]
  have hn1:1≤n:=by
   cases n with
   | zero=>rw [idx_none (Or.inl (by omega))] at hg; exact absurd hg (by decide)
   | succ n=>omega
  have w1:W ((n:Int) - 1 - 1)=(n:Int) - 2:=by rw [W_sm (by omega) (by omega)]; omega
  have w3:W ((n:Int) - 1 - 3)=(n:Int) - 4:=by rw [W_sm (by omega) (by omega)]; omega
  have w4:W ((n:Int) - 4 - 1)=(n:Int) - 5:=by rw [W_sm (by omega) (by omega)]; omega
  by_cases h3:(n:Int) - 1 < 3
  ·simp only [h3,if_true,Qd]
   exact ⟨_,_,_,_,rfl,fun h=>by cases h⟩
  ·obtain ⟨x,ex,_⟩:=idx_some (l:=l) (i:=(n:Int) - 2) (by omega) (by omega)
   obtain ⟨y,ey,_⟩:=idx_some (l:=l) (i:=(n:Int) - 4) (by omega) (by omega)
   simp only [h3,if_false,w1,w3,w4,ex,ey,Qd,fn_eq,ite_b]
   refine ite_ex (P:=fun o=>fnR n (some o)) (fun _=>⟨_,_,_,_,rfl,fun h=>by cases h⟩) (fun hA=>?_)
   have hx:0≤x.n∧x.n≤15:=by
    by_cases q1:x.n < 0
    ·exfalso; apply hA; simp [q1]
    ·by_cases q2:x.n > 15
     ·exfalso; apply hA; simp [q2]
     ·omega
   refine ite_ex (P:=fun o=>fnR n (some o)) (fun _=>⟨_,_,_,_,rfl,fun h=>by cases h⟩) (fun hB=>?_)
   have hf:=fnV_in y
   have hlow:¬ ((n:Int) - 4 < 0):=by omega
   have hx0:x.n≥0:=hx.1
   have hf0:fnV y≠0:=by
    intro q; apply hB
    simp only [hlow,if_false,q]
    rfl
   have hf36:fnV y=3∨fnV y=6:=by
    by_cases q3:fnV y=3
    ·exact Or.inl q3
    ·by_cases q6:fnV y=6
     ·exact Or.inr q6
     ·exfalso; apply hB
      simp [hlow,hx0,q3,q6,hf0]
   refine ⟨_,_,_,_,rfl,fun _=>⟨n - 4,by omega,by omega,by omega,by omega,Or.inr ⟨hx,hf36⟩⟩⟩
 ·simp only [hg,if_false]
  by_cases h0:(n:Int) - 1 < 0
  ·simp only [h0,if_true,Qd]
   exact ⟨_,_,_,_,rfl,fun h=>by cases h⟩
  ·obtain ⟨y,ey,_⟩:=idx_some (l:=l) (i:=(n:Int) - 1) (by omega) (by omega)
   have w1:W ((n:Int) - 1 - 1)=(n:Int) - 2:=by rw [W_sm (by omega) (by omega)]; omega
   have hf:=fnV_in y
   simp only [h0,if_false,ey,Qd,fn_eq,w1,Bool.false_eq_true]
   by_cases hf0:fnV y=0
   ·simp only [hf0,beq_self_eq_true,if_true,Qd]
    exact ⟨_,_,_,_,rfl,fun h=>by cases h⟩
   ·have hb:(fnV y == 0)=false:=by simpa using hf0
    simp only [hb,Bool.false_eq_true,if_false,Qd]
    exact ⟨_,_,_,_,rfl,fun _=>⟨n - 1,by omega,by omega,by omega,by omega,Or.inl rfl⟩⟩
def exprOk (l:List Tk):Prop:=∃ t ok,Jb l=some (t,ok)∧(ok=true→prs l t 0 l.length)
theorem sub_ok {α:Type} {l:List α} {a b:Nat} (h:a≤b) (hb:b≤l.length):sub l (a:Int) (b:Int)=some ((l.take b).drop a):=by
 unfold sub
 rw [if_pos ⟨by omega,by omega,by omega⟩,Int.toNat_natCast,Int.toNat_natCast]
theorem tksG_sub {l:List Tk} (hl:tksG l) (a b:Nat):tksG ((l.take b).drop a):=by
 refine ⟨?_,fun t ht=>hl.2 t (List.mem_of_mem_take (List.mem_of_mem_drop ht))⟩
 rw [List.length_drop,List.length_take]
 have:=hl.1
 omega
theorem opnd_tot (l:List Tk) (hl:tksG l) (IH:∀ m:List Tk,m.length < l.length→tksG m→exprOk m) (n:Nat) (hn:n≤l.length):∃ t j ok,ZX (l,(n:Int) - 1)=some (t,j,ok)∧(ok=true→∃ n':Nat,j=(n':Int) - 1∧n' < n∧prs l t n' n):=by
 have h65:=hl.1
 rw [ZX]
 dsimp only
 by_cases h0:(n:Int) - 1 < 0
 ·simp only [h0,if_true]
  exact ⟨_,_,_,rfl,fun h=>by cases h⟩
 ·obtain ⟨k,rfl⟩:∃ k,n=k+1:=⟨n - 1,by omega⟩
  have e0:((k+1:Nat):Int) - 1=(k:Int):=by omega
  have hg:l[k]? = some l[k]:=List.getElem?_eq_getElem (by omega)
  have hi:idx l (k:Int)=some l[k]:=idx_ok (by omega)
  obtain ⟨hG,hT⟩:=hl.2 l[k] (List.getElem_mem _)
  have ws:=wsum_step l hg
  have w1:W ((k:Int) - 1)=(k:Int) - 1:=W_sm (by omega) (by omega)
  rw [e0] at h0 ⊢
  simp only [h0,if_false,hi,Qd,glyph_eq,w1]
  generalize l[k]=x at *
  by_cases hk1:x.kind=1
  ·simp only [hk1,if_true]
   refine ⟨_,_,_,rfl,fun _=>⟨k,rfl,by omega,?_,?_,?_,?_,?_⟩⟩
   ·refine good_low (Or.inr (Or.inl ⟨rfl,rfl,rfl,?_,rfl,rfl⟩)) rfl
    rcases hG with q|q|q
    ·exact q.2
    ·omega
    ·omega
   ·rw [namesOk,namesOks]
    exact ⟨⟨by unfold nmOk; omega,fun n h=>by cases h⟩,trivial⟩
   ·rw [szT,szTs]; omega
   ·rw [numT,numTs]; simp
   ·rw [wT,wTs,ws]; simp; omega
  ·simp only [hk1,if_false]
   by_cases hz:glyphO (some x) (⟨#[226,141,172]⟩:ByteArray)=true
   ·simp only [hz,if_true]
    refine ⟨_,_,_,rfl,fun _=>⟨k,rfl,by omega,?_,?_,?_,?_,?_⟩⟩
    ·exact good_low (Or.inl ⟨rfl,rfl,rfl,rfl,rfl⟩) rfl
    ·rw [namesOk,namesOks]
     exact ⟨⟨by unfold nmOk; rw [empty_size]; omega,fun n h=>by cases h⟩,trivial⟩
    ·rw [szT,szTs]; omega
    ·rw [numT,numTs]; simp
    ·rw [wT,wTs,ws,empty_size]; simp; omega
   ·simp only [hz,if_false,Bool.false_eq_true]
    by_cases hk2:x.kind=2
    ·simp only [hk2,if_true]
     obtain ⟨acc,n',e,h1,h2,h3,h4⟩:=nums_tot l hl (k+1) [] hn (by simp; omega) (fun n h=>by cases h)
     rw [e0] at e
     have hlt:=h4 x (by simpa using hg) hk2 (by omega)
     have hm:=wsum_mono l (a:=n') (b:=k+1) (by omega) hn
     simp only [List.length_nil,Nat.zero_add] at h2
     simp only [e,Qd]
     refine ⟨_,_,_,rfl,fun _=>⟨n',rfl,hlt,?_,?_,?_,?_,?_⟩⟩
     ·exact good_low (Or.inl ⟨rfl,rfl,rfl,rfl,rfl⟩) rfl
     ·rw [namesOk,namesOks]
      exact ⟨⟨by unfold nmOk; rw [empty_size]; omega,h3⟩,trivial⟩
     ·rw [szT,szTs]; omega
     ·rw [numT,numTs]; omega
     ·rw [wT,wTs,empty_size]; omega
    ·simp only [hk2,if_false]
     by_cases hp:glyphO (some x) (⟨#[41]⟩:ByteArray)=true
     ·simp only [hp,if_true]
      obtain ⟨j,ej,hj⟩:=open_ok l h65 k (by omega) (by rw [hi]; exact hp)
      simp only [ej,Qd]
      rcases hj with hj|⟨q,rfl,hq⟩
      ·simp only [hj,if_true]
       exact ⟨_,_,_,rfl,fun h=>by cases h⟩
      ·have hnn:¬ ((q:Int) < 0):=by omega
       have w2:W ((q:Int)+1)=((q+1:Nat):Int):=by rw [W_sm (by omega) (by omega)]; omega
       have w3:W ((q:Int) - 1)=(q:Int) - 1:=W_sm (by omega) (by omega)
       have hlen:((l.take k).drop (q+1)).length=k - (q+1):=by rw [List.length_drop,List.length_take]; omega
       obtain ⟨t,ok,e,ht⟩:=IH ((l.take k).drop (q+1)) (by omega) (tksG_sub hl _ _)
       have hsp:=wsum_split l (a:=q+1) (b:=k) (by omega)
       have hm:=wsum_mono l (a:=q) (b:=q+1) (by omega) (by omega)
       simp only [hnn,if_false,w2,w3,sub_ok (show q+1≤k by omega) (show k≤l.length by omega),Qd,e]
       refine ⟨_,_,_,rfl,fun h=>⟨q,rfl,by omega,?_⟩⟩
       have r:=ht h
       have r3:=r.sz; have r4:=r.num; have r5:=r.wt
       rw [hlen] at r3 r4
       simp only [List.take_zero,wsum,List.take_length] at r5
       exact ⟨r.gd,r.nm,by omega,by omega,by omega⟩
     ·simp only [hp,if_false,Bool.false_eq_true]
      exact ⟨_,_,_,rfl,fun h=>by cases h⟩
def lpR (l:List Tk) (o:Option ((Int × Int × Int × ByteArray × (List Int) × (List Qa)) ⊕ (Int × Int × Int × ByteArray × (List Int) × (List Qa) × Int × Int × Int × ByteArray × (List Int) × (List Qa)) ⊕ (Int × Int × Int × ByteArray × (List Int) × (List Qa)))):Prop :=
 ∃ r,o=some r∧∀ k f a nm nu ks,r=.inr (.inr (k,f,a,nm,nu,ks))→prs l ⟨k,f,a,nm,nu,ks⟩ 0 l.length
theorem lpR_mid {l:List Tk} (x:Int × Int × Int × ByteArray × (List Int) × (List Qa) × Int × Int × Int × ByteArray × (List Int) × (List Qa)):lpR l (some (.inr (.inl x))):=⟨_,rfl,fun k f a nm nu ks e=>by cases e⟩
theorem good_kind {t:Qa} (h:good t):1≤t.kind∧t.kind≤4:=by
 rcases (good_f.1 h).1 with c|c|c|c <;> omega
theorem prs_dyad {l:List Tk} {u t:Qa} {f ax:Int} {n2 n1 n:Nat} (hn:n≤l.length) (hu:prs l u n2 n1) (ht:prs l t n l.length) (h1:n1 < n) (hf1:1≤f) (hf6:f≤6) (hax:ax=-1∨(axF ax∧(f=3∨f=6))) (hk:f=6∨u.kind≤2) :
  prs l ⟨4,f,ax,ByteArray.empty,[],[u,t]⟩ n2 l.length:=by
 have hm:=wsum_mono l (a:=n1) (b:=n) (by omega) hn
 have:=hu.sz; have:=hu.num; have:=hu.wt; have:=ht.sz; have:=ht.num; have:=ht.wt
 have hk1:=good_kind hu.gd
 refine ⟨?_,?_,?_,?_,?_⟩
 ·rw [good]
  refine ⟨Or.inr (Or.inr (Or.inr ⟨rfl,rfl,rfl,rfl,hf1,hf6,hax,?_⟩)),goods2.2 ⟨hu.gd,ht.gd⟩⟩
  rcases hk with h|h
  ·exact Or.inl h
  ·right
   show u.kind=1∨u.kind=2
   omega
 ·rw [namesOk]
  exact ⟨⟨by unfold nmOk; rw [empty_size]; omega,fun n h=>by cases h⟩,nms2.2 ⟨hu.nm,ht.nm⟩⟩
 ·rw [szT,szTs,szTs,szTs]; omega
 ·rw [numT,numTs,numTs,numTs]; simp only [List.length_nil]; omega
 ·rw [wT,wTs,wTs,wTs,empty_size]; simp only [List.length_nil]; omega
theorem prs_mon {l:List Tk} {t:Qa} {f ax:Int} {n1 n:Nat} (hn:n≤l.length) (ht:prs l t n l.length) (h1:n1 < n) (hf:(f=3∧(ax=-1∨axF ax))∨((f=4∨f=6)∧ax=-1)) :
  prs l ⟨3,f,ax,ByteArray.empty,[],[t]⟩ n1 l.length:=by
 have hm:=wsum_mono l (a:=n1) (b:=n) (by omega) hn
 have:=ht.sz; have:=ht.num; have:=ht.wt
 refine ⟨?_,?_,?_,?_,?_⟩
 ·rw [good]
  exact ⟨Or.inr (Or.inr (Or.inl ⟨rfl,rfl,rfl,rfl,hf⟩)),goods1.2 ht.gd⟩
 ·rw [namesOk]
  exact ⟨⟨by unfold nmOk; rw [empty_size]; omega,fun n h=>by cases h⟩,nms1.2 ht.nm⟩
 ·rw [szT,szTs,szTs]; omega
 ·rw [numT,numTs,numTs]; simp only [List.length_nil]; omega
 ·rw [wT,wTs,wTs,empty_size]; simp only [List.length_nil]; omega
theorem loop_tot (l:List Tk) (hl:tksG l) (IH:∀ m:List Tk,m.length < l.length→tksG m→exprOk m):∀ (N n:Nat) (t:Qa),n≤N→n≤l.length→prs l t n l.length →
  lpR l (ZM (true,l,t.kind,t.fn,t.axis,t.name,t.nums,t.kids,(n:Int) - 1)):=by
 intro N
 have h65:=hl.1
 induction N with
 | zero =>
  intro n t hN hn ht
  have:n=0:=by omega
  subst this
  rw [ZM]
  refine ⟨_,rfl,fun k f a nm nu ks e=>?_⟩
  cases e
  rw [etaT]; exact ht
 | succ N ih =>
  intro n t hN hn ht
  by_cases h0:n=0
  ·subst h0
   exact ih 0 t (by omega) hn ht
  ·rw [ZM]
   obtain ⟨f,ax,j,ok,ef,hf⟩:=func_tot l h65 n hn
   have hge:decide ((n:Int) - 1≥0)=true:=by rw [decide_eq_true_eq]; omega
   simp only [if_true,hge,Qd,ef]
   cases ok with
   | false=>exact ⟨_,rfl,fun k f a nm nu ks e=>by cases e⟩
   | true =>
    obtain ⟨n1,rfl,h1,hf1,hf6,hax⟩:=hf rfl
    obtain ⟨u,j2,ok2,eo,ho⟩:=opnd_tot l hl IH n1 (by omega)
    simp only [Bool.true_eq_false,if_false,eo,Qd]
    cases ok2 with
    | true =>
     obtain ⟨n2,rfl,h2,hu⟩:=ho rfl
     simp only [if_true,ite_b,Qd]
     refine ite_ex (P:=lpR l) (fun _=>lpR_mid _) (fun hA=>?_)
     have hk:f=6∨u.kind≤2:=by
      by_cases h6:f=6
      ·exact Or.inl h6
      ·right
       by_cases hk:u.kind > 2
       ·exfalso; apply hA; simp [h6,hk]
       ·omega
     have hp:=prs_dyad hn hu ht h1 hf1 hf6 hax hk
     have:=ih n2 _ (by omega) (by omega) hp
     simp only [etaT]
     exact this
    | false =>
     obtain ⟨b,eb⟩:∃ b,(if (n1:Int) - 1≥0 then (if glyphO (idx l ((n1:Int) - 1)) (⟨#[41]⟩:ByteArray)=true then some true else idx l ((n1:Int) - 1)>>=fun v640=>some (v640.kind != 3)) else some false)=some b:=by
      by_cases hq:(n1:Int) - 1≥0
      ·obtain ⟨x,ex,_⟩:=idx_some (l:=l) hq (by omega)
       simp only [hq,if_true,ex,Qd,ite_b]
       exact ⟨_,rfl⟩
      ·simp only [hq,if_false]
       exact ⟨_,rfl⟩
     simp only [Bool.false_eq_true,if_false,glyph_eq,eb,ite_b,Qd]
     refine ite_ex (P:=lpR l) (fun _=>lpR_mid _) (fun hA=>?_)
     have hff:(f=3∧(ax=-1∨axF ax))∨((f=4∨f=6)∧ax=-1):=by
      cases b with
      | true=>exact absurd rfl hA
      | false =>
       by_cases q3:f=3
       ·refine Or.inl ⟨q3,?_⟩
        rcases hax with h|h
        ·exact Or.inl h
        ·exact Or.inr h.1
       ·by_cases q4:f=4
        ·refine Or.inr ⟨Or.inl q4,?_⟩
         rcases hax with h|h
         ·exact h
         ·omega
        ·by_cases q6:f=6
         ·refine Or.inr ⟨Or.inr q6,?_⟩
          rcases hax with h|h
          ·exact h
          ·exfalso; apply hA
           have:=h.1.1
           simp [q6,this]
         ·exfalso; apply hA
          simp [q3,q4,q6]
     have hp:=prs_mon hn ht h1 hff
     have:=ih n1 _ (by omega) (by omega) hp
     simp only [etaT]
     exact this
theorem expr_tot:∀ (N:Nat) (l:List Tk),l.length≤N→tksG l→exprOk l:=by
 intro N
 induction N with
 | zero =>
  intro l hN hl
  have:l=[]:=by cases l with|nil=>rfl|cons a b=>simp at hN
  subst this
  unfold exprOk
  rw [Jb]
  have w:W ((([]:List Tk).length:Int) - 1)=-1:=by decide
  have e:ZX (([]:List Tk),-1)=some (⟨0,0,0,ByteArray.empty,[],[]⟩,-1,false):=by
   rw [ZX]; rfl
  simp only [w,e,Qd]
  rw [ZM]
  exact ⟨_,_,rfl,fun h=>by cases h⟩
 | succ N ih =>
  intro l hN hl
  have h65:=hl.1
  have IH:∀ m:List Tk,m.length < l.length→tksG m→exprOk m:=fun m h1 h2=>ih m (by omega) h2
  unfold exprOk
  rw [Jb]
  obtain ⟨t,j,ok,e,ht⟩:=opnd_tot l hl IH l.length (Nat.le_refl _)
  have w:W ((l.length:Int) - 1)=(l.length:Int) - 1:=W_sm (by omega) (by omega)
  simp only [w,e,Qd]
  cases ok with
  | false =>
   rw [ZM]
   exact ⟨_,_,rfl,fun h=>by cases h⟩
  | true =>
   obtain ⟨n,rfl,hn,hp⟩:=ht rfl
   obtain ⟨r,er,hr⟩:=loop_tot l hl IH n n t (Nat.le_refl _) (by omega) hp
   rw [er]
   simp only [Qd]
   rcases r with r|r|⟨k,f,a,nm,nu,ks⟩
   ·exact ⟨_,_,rfl,fun h=>by cases h⟩
   ·exact ⟨_,_,rfl,fun h=>by cases h⟩
   ·exact ⟨_,_,rfl,fun h=>hr k f a nm nu ks rfl⟩
theorem tsum_mem:∀ (l:List Tk) (t:Tk),t∈l→t.text.size≤tsum l
 | [],t,h=>by cases h
 | x::l,t,h=>by
  rw [tsum]
  rcases List.mem_cons.1 h with rfl|h
  ·omega
  ·have:=tsum_mem l t h; omega
theorem Text_tot (s:List UInt8):∃ t f,Qbt (B s)=some (t,f)∧(f=0→good t∧namesOk t∧szT t≤s.length∧numT t≤s.length∧wT t≤81 * s.length∧depT t≤100):=by
 obtain ⟨ts,ok,e,h1,h2,h3,h4,h5⟩:=Tokens_tot s
 have hl:tksG ts:=⟨h1,fun t ht=>⟨h2 t ht,by have:=tsum_mem ts t ht; omega⟩⟩
 unfold Qbt Qbv
 simp only [e,Qd]
 cases ok with
 | false=>exact ⟨_,_,rfl,fun h=>by cases h⟩
 | true =>
  obtain ⟨t,ok2,ee,hp⟩:=expr_tot ts.length ts (Nat.le_refl _) hl
  simp only [Bool.true_eq_false,if_false,ee,Qd]
  cases ok2 with
  | false=>exact ⟨_,_,rfl,fun h=>by cases h⟩
  | true =>
   have p:=hp rfl
   have p1:=p.sz; have p2:=p.num; have p3:=p.wt
   simp only [List.take_zero,wsum,List.take_length,wsum_eq] at p3
   have hd:=tdep_ok t (by omega)
   simp only [Bool.true_eq_false,if_false,hd,Qd]
   by_cases hdd:(depT t:Int) > 100
   ·simp only [hdd,if_true,Qd]
    exact ⟨_,_,rfl,fun h=>by cases h⟩
   ·simp only [hdd,if_false,Qd]
    exact ⟨_,_,rfl,fun _=>⟨p.gd,p.nm,by omega,by omega,by omega,by omega⟩⟩
theorem namesF_has:∀ (l:List Qa) (N:List ByteArray),(∀ v∈N,v∈namesF N l)∧∀ x∈l,x.kind=2→x.name∈namesF N l
 | [],N=>⟨fun v h=>h,fun x h=>(nomatch h)⟩
 | y::l,N=>by
  obtain ⟨i1,i2⟩:=namesF_has l (addN N y)
  have e:namesF N (y::l)=namesF (addN N y) l:=rfl
  rw [e]
  have hN:∀ v∈N,v∈addN N y:=fun v hv=>by unfold addN; split; exact List.mem_append_left _ hv; exact hv
  refine ⟨fun v hv=>i1 v (hN v hv),fun x hx hk=>?_⟩
  rcases List.mem_cons.1 hx with rfl|hx
  ·refine i1 _ ?_
   rw [addN_two hk]; split
   ·assumption
   ·simp
  ·exact i2 x hx hk
theorem namesF_le:∀ (l:List Qa) (N:List ByteArray),(namesF N l).length≤N.length+l.length
 | [],N=>Nat.le_refl _
 | y::l,N=>by
  have ih:=namesF_le l (addN N y)
  have e:namesF N (y::l)=namesF (addN N y) l:=rfl
  have ha:(addN N y).length≤N.length+1:=by unfold addN; split <;> simp
  rw [e,List.length_cons]; omega
theorem stepsR_mem:∀ {ks:List Qa} {k x:Qa},k∈ks→x∈stepsL k→x∈stepsR ks
 | a::ks,k,x,hk,hx=>by
  rw [stepsR]
  rcases List.mem_cons.1 hk with rfl|hk
  ·exact List.mem_append_right _ hx
  ·exact List.mem_append_left _ (stepsR_mem hk hx)
theorem steps_kid {t k x:Qa} (hk:k∈t.kids) (hx:x∈stepsL k):x∈stepsL t:=by
 rw [stepsL_f]; exact List.mem_append_left _ (stepsR_mem hk hx)
theorem steps_self (t:Qa):t∈stepsL t:=by rw [stepsL_f]; simp
mutual
theorem steps_sz:∀ t:Qa,(stepsL t).length=szT t
 | ⟨k,f,a,nm,nu,ks⟩=>by rw [stepsL,szT,List.length_append,stepsR_sz ks,List.length_singleton]; omega
theorem stepsR_sz:∀ ks:List Qa,(stepsR ks).length=szTs ks
 | []=>by rw [stepsR,szTs]; rfl
 | k::ks=>by rw [stepsR,szTs,List.length_append,stepsR_sz ks,steps_sz k]; omega
end
def likeB (l m:List Qb) (t:Qa):Prop:=∀ x∈stepsL t,x.kind=2→YK (l,x.name)=YK (m,x.name)
theorem atom_cong {l m:List Qb} {t:Qa} (h:likeB l m t) (ss:List Qm):YD (l,ss,t)=YD (m,ss,t):=by
 unfold YD
 by_cases h2:t.kind=2
 ·simp only [h2,if_true,h t (steps_self t) h2]
 ·simp only [h2,if_false]
theorem read_cong {l m:List Qb} {t a:Qa} (h:likeB l m t) (ha:a∈t.kids) (hk:a.kind=1∨a.kind=2):YY (l,a)=YY (m,a):=by
 unfold YY
 rcases hk with h1|h2
 ·simp only [h1,if_true]
 ·have:¬ a.kind=1:=by omega
  simp only [this,if_false,h a (steps_kid ha (steps_self a)) h2]
theorem one_cong {l m:List Qb} {t:Qa} (h:t.kind=4→∃ a,idx t.kids 0=some a∧YY (l,a)=YY (m,a)) (c:Qf):Ys (l,t,c)=Ys (m,t,c):=by
 unfold Ys
 by_cases h4:t.kind=4
 ·obtain ⟨a,ia,hr⟩:=h h4
  simp only [h4,if_true,ia,Qd,hr]
 ·simp only [h4,if_false]
theorem expr_cong {l m:List Qb}:∀ (n:Nat) (t:Qa),szT t≤n→good t→likeB l m t→∀ ss,Q4 (l,ss,t)=Q4 (m,ss,t)
 | 0,t,h,_,_,_=>by have:=szT_pos t; omega
 | n+1,t,h,hg,hl,ss=>by
  obtain ⟨hF,hK⟩:=good_f.1 hg
  have hsz:=szT_f t
  rw [Q4,Q4]
  by_cases h2:t.kind≤2
  ·simp only [h2,if_true,atom_cong hl]
  ·simp only [h2,if_false]
   rcases hF with hF|hF|hF|hF
   ·omega
   ·omega
   ·obtain ⟨h3,_,_,h4,_⟩:=hF
    obtain ⟨k,hk⟩:=kids1 h4
    rw [hk] at hK hsz
    have s1:=sz1 k
    have ik:idx t.kids (W ((t.kids.length:Int) - 1))=some k:=by rw [hk]; rfl
    have ihk:=fun ss=>expr_cong n k (by omega) (goods1.1 hK) (fun x hx=>hl x (steps_kid (by rw [hk]; simp) hx)) ss
    have ho:=fun c=>one_cong (l:=l) (m:=m) (t:=t) (fun h=>by omega) c
    simp only [ik,Qd,ihk,etaT,ho]
    simp only [h3,if_true,Qd]
   ·obtain ⟨h3,_,_,h4,_,_,_,h5⟩:=hF
    obtain ⟨a,k,hk⟩:=kids2 h4
    rw [hk] at hK hsz h5
    have s2:=sz2 a k
    have za:=szT_pos a
    have zk:=szT_pos k
    have ik:idx t.kids (W ((t.kids.length:Int) - 1))=some k:=by rw [hk]; rfl
    have i0:idx t.kids 0=some a:=by rw [hk]; rfl
    have ihk:=fun ss=>expr_cong n k (by omega) (goods2.1 hK).2 (fun x hx=>hl x (steps_kid (by rw [hk]; simp) hx)) ss
    have iha:=fun ss=>expr_cong n a (by omega) (goods2.1 hK).1 (fun x hx=>hl x (steps_kid (by rw [hk]; simp) hx)) ss
    by_cases h6:t.fn=6
    ·have h34:¬ t.kind=3:=by omega
     simp only [ik,i0,Qd,ihk,iha,h34,if_false,h6,bne_self_eq_false,Bool.false_eq_true]
    ·have h5':a.kind=1∨a.kind=2:=by
      rcases h5 with h5|h5
      ·exact absurd h5 h6
      ·exact h5
     have ho:=fun c=>one_cong (l:=l) (m:=m) (t:=t) (fun _=>⟨a,i0,read_cong hl (by rw [hk]; simp) h5'⟩) c
     have hb:(t.fn != 6)=true:=by simpa using h6
     have h34:¬ t.kind=3:=by omega
     simp only [ik,Qd,ihk,etaT,ho,h34,if_false,hb,if_true]
theorem used_L1 {N:List ByteArray} (hN:N.length≤1000) (t:Qa):∀ (s p out:List Qb),(p++s).length≤1000→out.length≤p.length→ZE (p++s,N,t,out,(p.length:Int))=some (out++s.filter fun b=>decide (b.name∈N))
 | [],p,out,h,ho=>by
  rw [ZE]
  simp only [Z4,if_false]; simp only [List.filter_nil,List.append_nil]
 | x::s,p,out,h,ho=>by
  have ih:=fun o (h':o.length≤(p++[x]).length)=>used_L1 hN t s (p++[x]) o (by rw [← Qz]; exact h) h'
  simp only [← Qz] at ih
  rw [ZE]
  simp only [Zi,if_true,QR,Qd,in_is _ _ hN,mid_W (Sm_le h)]
  by_cases hx:x.name∈N
  ·have ha:app 64 out [x]=some (out++[x]):=app_le2 (by simp at h ⊢; omega) (by omega)
   simp only [hx,decide_true,if_true,ha,Qd]
   rw [ih _ (by simp; omega),List.filter_cons_of_pos (by simpa using hx)]
   simp
  ·simp only [hx,decide_false,Bool.false_eq_true,if_false]
   rw [ih _ (by simp; omega),List.filter_cons_of_neg (by simpa using hx)]
theorem okL_filter {l:List Qb} (h:okL l) (q:Qb→Bool):okL (l.filter q):=by
 refine ⟨Nat.le_trans (List.length_filter_le _ _) h.1,fun b hb=>h.2.1 b (List.mem_filter.1 hb).1,fun b hb=>h.2.2.1 b (List.mem_filter.1 hb).1,h.2.2.2.filter _⟩
theorem get_used {l:List Qb} (h:okL l) {N:List ByteArray} {nm:ByteArray} (hn:nm∈N):YK (l,nm)=YK (l.filter (fun b=>decide (b.name∈N)),nm):=by
 have h':=okL_filter h (fun b=>decide (b.name∈N))
 obtain ⟨r,er,hr,hr'⟩:=get_L1 l (by have:=h.1; omega) nm l [] rfl
 obtain ⟨q,eq,hq,hq'⟩:=get_L1 (l.filter (fun b=>decide (b.name∈N))) (by have:=h'.1; omega) nm _ [] rfl
 simp only [List.length_nil,Int.natCast_zero] at er eq
 have e:r=q:=by
  by_cases hb:∃ b∈l,b.name=nm
  ·obtain ⟨b,hb,e⟩:=hb
   have hb':b∈l.filter (fun b=>decide (b.name∈N)):=List.mem_filter.2 ⟨hb,by rw [e]; exact decide_eq_true hn⟩
   rw [hr b hb e (fun x hx hx'=>uniqB h.2.2.2 x hx b hb (by rw [hx',e])),hq b hb' e (fun x hx hx'=>uniqB h'.2.2.2 x hx b hb' (by rw [hx',e]))]
  ·rw [hr' (fun b hb' e=>hb ⟨b,hb',e⟩),hq' (fun b hb' e=>hb ⟨b,(List.mem_filter.1 hb').1,e⟩)]
 unfold YK
 simp only [er,eq,e]
mutual
theorem bk_inj:∀ c d:Qc,bk c=bk d→c=d
 | ⟨k,sh,b,st,ax,am,pe,ks⟩,⟨k',sh',b',st',ax',am',pe',ks'⟩,h=>by
  rw [bk,bk] at h
  simp only [Qf.mk.injEq] at h
  obtain ⟨rfl,rfl,rfl,rfl,rfl,rfl,rfl,h8⟩:=h
  rw [bks_inj ks ks' h8]
theorem bks_inj:∀ l m:List Qc,bks l=bks m→l=m
 | [],[],_=>rfl
 | x::l,y::m,h=>by
  rw [bks,bks] at h
  obtain ⟨h1,h2⟩:=List.cons.inj h
  rw [bk_inj x y h1,bks_inj l m h2]
 | [],_::_,h=>by rw [bks,bks] at h; cases h
 | _::_,[],h=>by rw [bks,bks] at h; cases h
end
theorem bkS_inj:∀ {l m:List Ql},l.map bkS=m.map bkS→l=m
 | [],[],_=>rfl
 | x::l,y::m,h=>by
  simp only [List.map_cons,List.cons.injEq] at h
  obtain ⟨h1,h2⟩:=h
  have:x=y:=by cases x; cases y; simp only [bkS,Qm.mk.injEq] at h1; rw [h1.1,h1.2]
  rw [this,bkS_inj h2]
 | [],_::_,h=>by cases h
 | _::_,[],h=>by cases h
theorem bndS_nil (l:List Qb):bndS l []:=fun s hs=>(nomatch hs)
theorem elab_both {l:List Qb} (hl:okL l) {t:Qa} (hg:good t) (hz:szT t≤900) (hN:numT t≤1000):∃ (S:List Ql) (c:Qc) (e:Int),
  YW (t.kind,t.fn,t.axis,t.name,t.nums,t.kids,smOf l 0,l,l)=some (c.kind,c.shape,c.buffer,c.starts,c.axis,c.amount,c.perm,c.kids,S,e)∧XK (l,t)=some (⟨bk c,S.map bkS⟩,e)∧smD c∧S.length≤1000∧∀ s∈S,s.value.shape.length≤1000∧s.value.data.length≤1000:=by
 obtain ⟨S,c,e,eE,hE,hE'⟩:=expr_e hl (szT t) t (Nat.le_refl _) hg hN [] (by simpa using hz) srcK.nil
 obtain ⟨S2,c2,e2,eE2,hE2⟩:=expr_r hl (szT t) t (Nat.le_refl _) hg hN [] (by simpa using hz) (bndS_nil l)
 rw [eE] at eE2
 by_cases he:e=0
 ·subst he
  obtain ⟨q1,q2,q3,q4⟩:=hE rfl
  have ec:c=c2∧S=S2∧e2=0:=by
   simp only [Option.some.injEq,Prod.mk.injEq] at eE2
   obtain ⟨a0,a1,a2,a3,a4,a5,a6,a7,a8,a9⟩:=eE2
   refine ⟨?_,a0,a9.symm⟩
   cases c; cases c2; simp_all
  obtain ⟨rfl,rfl,rfl⟩:=ec
  obtain ⟨k1,_⟩:=hE2 rfl
  refine ⟨S,c,0,?_,?_,okC_sm c k1,by simp at q2; omega,fun s hs=>?_⟩
  ·unfold YW
   simp only [eE,Qd,ne_eq,not_true_eq_false,if_false]
  ·unfold XK
   simp only [List.map_nil] at q4
   simp only [etaT,q4,Qd,ne_eq,not_true_eq_false,if_false]
  ·have:=q3.bd s hs
   exact ⟨by omega,this.2.1⟩
 ·obtain ⟨c',l',q4⟩:=hE' he
  refine ⟨[],⟨0,[],0,[],0,0,[],[]⟩,e,?_,?_,?_,by simp,fun s hs=>(nomatch hs)⟩
  ·unfold YW
   simp only [eE,Qd,ne_eq,he,not_false_eq_true,if_true]
  ·unfold XK
   simp only [List.map_nil] at q4
   simp only [etaT,q4,Qd,ne_eq,he,not_false_eq_true,if_true]
   rfl
  ·rw [smD,smDs]; simp
theorem ElabTexts_ok (l:List Qb) (s:ByteArray):J6 (l,s)=some true:=by
 rw [← B_eta s]
 generalize s.data.toList=s
 obtain ⟨t,f,eT,ht⟩:=Text_tot s
 obtain ⟨b1,e1,h1⟩:=Few_is l
 unfold J6
 simp only [eT,Qd,QbQ,Bool.true_eq_false,if_false,B_size]
 by_cases hsz:(s.length:Int) > 300
 ·simp [hsz]
 by_cases hf:f=0
 case neg=>simp [hsz,hf]
 subst hf
 obtain ⟨hg,hn,z1,z2,_,_⟩:=ht rfl
 simp only [hsz,decide_false,Bool.false_eq_true,if_false,bne_self_eq_false,Qd,e1]
 cases b1 with
 | false=>simp
 | true =>
 obtain ⟨l1,l2⟩:=h1 rfl
 obtain ⟨b2,e2,h2⟩:=Right_is l (by omega) l2
 simp only [Bool.not_true,Bool.false_eq_true,if_false,Qd,e2]
 cases b2 with
 | false=>simp
 | true =>
 have hl:okL l:=⟨l1,l2,h2 rfl⟩
 have hN:=namesF_le (stepsL t) []
 rw [steps_sz] at hN
 have eu:=used_L1 (N:=namesF [] (stepsL t)) (by simp at hN; omega) t l [] [] (by simp; omega) (by simp)
 simp only [List.nil_append,List.length_nil,Int.natCast_zero] at eu
 have hu:=okL_filter hl (fun b=>decide (b.name∈namesF [] (stepsL t)))
 have hlike:likeB l (l.filter fun b=>decide (b.name∈namesF [] (stepsL t))) t:=fun x hx hk=>get_used hl ((namesF_has (stepsL t) []).2 x hx hk)
 obtain ⟨S,c,e,q1,q2,q3,q4,q5⟩:=elab_both hl hg (by omega) (by omega)
 obtain ⟨S',c',e',r1,r2,_⟩:=elab_both hu hg (by omega) (by omega)
 have hx:XK (l,t)=XK ((l.filter fun b=>decide (b.name∈namesF [] (stepsL t))),t):=by
  unfold XK
  simp only [etaT,expr_cong (szT t) t (Nat.le_refl _) hg hlike]
 have hsame:bk c=bk c'∧S.map bkS=S'.map bkS∧e=e':=by
  have:some ((⟨bk c,S.map bkS⟩:Q5),e)=some (⟨bk c',S'.map bkS⟩,e'):=by rw [← q2,← r2,hx]
  simp only [Option.some.injEq,Prod.mk.injEq,Q5.mk.injEq] at this
  exact ⟨this.1.1,this.1.2,this.2⟩
 have hc:=bk_inj c c' hsame.1
 have hS:=bkS_inj hsame.2.1
 have he:=hsame.2.2
 subst hc hS he
 have hb':∀ s∈S.map bkS,s.value.shape.length≤1000∧s.value.data.length≤1000:=fun s hs=>by
  obtain ⟨x,hx,rfl⟩:=List.mem_map.1 hs
  exact q5 x hx
 simp only [Bool.not_true,Bool.false_eq_true,if_false,etaT,names_is (show szT t≤600 by omega),Qd,eu,Make_is hl,Make_is hu,q1,r1,q2,if_true,beq_self_eq_true,etaC,Back15_ok q3 q4,Same15_ok q3 (show (S.map bkS).length≤1000 by simpa using q4) hb',eSame_ok q3 q4 q5]
set_option maxHeartbeats 2000000
theorem ua9:prog.underlying 9=some TypeDesc.string:=by kernel_rfl
theorem ua3:prog.underlying 3=some (TypeDesc.int IntKind.i64):=by kernel_rfl
theorem ua35:prog.underlying 35=some (TypeDesc.slice 3):=by kernel_rfl
theorem ua2:prog.underlying 2=some (TypeDesc.int IntKind.i64):=by kernel_rfl
theorem ua23:prog.underlying 23=some (TypeDesc.slice 2):=by kernel_rfl
theorem ua37 : prog.underlying 37 = some (TypeDesc.struct { toList := [{ name := "Shape", type := 35, offset := 0, embedded := false, tag := "", pkgPath := "", byteOffset := 0 }, { name := "Data", type := 23, offset := 1, embedded := false, tag := "", pkgPath := "", byteOffset := 24 }] }) := by kernel_rfl
theorem ua39 : prog.underlying 39 = some (TypeDesc.struct { toList := [{ name := "Name", type := 9, offset := 0, embedded := false, tag := "", pkgPath := "", byteOffset := 0 }, { name := "Value", type := 37, offset := 1, embedded := false, tag := "", pkgPath := "", byteOffset := 16 }] }) := by kernel_rfl
theorem ua22:prog.underlying 22=some (TypeDesc.slice 39):=by kernel_rfl
theorem ua4:prog.underlying 4=some TypeDesc.bool:=by kernel_rfl
theorem exists_map {α β:Type} {f:β→α} {p:β→Prop}:∀ {L:List α},(∀ x∈L,∃ y,x=f y∧p y)→∃ l:List β,L=l.map f∧∀ y∈l,p y
 | [],_=>⟨[],rfl,fun y h=>by cases h⟩
 | x::L,h=>by
  obtain ⟨y,rfl,hy⟩:=h x (List.mem_cons_self ..)
  obtain ⟨l,rfl,hl⟩:=exists_map (fun x hx=>h x (List.mem_cons_of_mem _ hx))
  exact ⟨y::l,rfl,fun z hz=>by
   rcases List.mem_cons.1 hz with rfl|hz
   ·exact hy
   ·exact hl z hz⟩
variable {B:Nat} {n:Nat} {cs:List Dat}
theorem tc9 (h:TyC prog B n 9 cs):∃ m:ByteArray,cs=[strD m]∧m.size≤B:=by
 cases n with
 | zero=>exact h.elim
 | succ n =>
  simp only [TyC,ua9] at h
  obtain ⟨m,rfl,hm⟩:=h
  exact ⟨m,rfl,hm⟩
theorem tc3 (h:TyC prog B n 3 cs):∃ m:Int,cs=[(Qj m)]∧((-9223372036854775808)≤m∧m≤9223372036854775807):=by
 cases n with
 | zero=>exact h.elim
 | succ n =>
  simp only [TyC,ua3] at h
  obtain ⟨m,rfl,hm⟩:=h
  refine ⟨m,rfl,?_⟩
  simpa [Lit.wf,IntKind.min,IntKind.max,IntKind.signed,IntKind.bits] using hm
def ok35 (B:Nat) (x:(List Int)):Prop:=x.length≤B∧∀ m∈x,((-9223372036854775808)≤m∧m≤9223372036854775807)
theorem tc35 (h:TyC prog B n 35 cs):∃ l:(List Int),cs=[.lst ((List.map Qj) l)]∧ok35 B l:=by
 cases n with
 | zero=>exact h.elim
 | succ n =>
  simp only [TyC,ua35] at h
  obtain ⟨L,rfl,hl,hx⟩:=h
  obtain ⟨l,rfl,hm⟩:=exists_map (f:=fun m=>[(Qj m)]) (p:=fun m=>((-9223372036854775808)≤m∧m≤9223372036854775807)) (fun x hx'=>tc3 (hx x hx'))
  refine ⟨l,?_,by simpa using hl,hm⟩
  have e:(l.map (fun m=>[(Qj m)])).map (elemD prog 3)=l.map Qj:=by
   rw [List.map_map]; exact List.map_congr_left (fun m _=>by simp only [Function.comp_apply]; simp [elemD,aggB,ua3])
  rw [e]
theorem tc2 (h:TyC prog B n 2 cs):∃ m:Int,cs=[(Qj m)]∧((-9223372036854775808)≤m∧m≤9223372036854775807):=by
 cases n with
 | zero=>exact h.elim
 | succ n =>
  simp only [TyC,ua2] at h
  obtain ⟨m,rfl,hm⟩:=h
  refine ⟨m,rfl,?_⟩
  simpa [Lit.wf,IntKind.min,IntKind.max,IntKind.signed,IntKind.bits] using hm
def ok23 (B:Nat) (x:(List Int)):Prop:=x.length≤B∧∀ m∈x,((-9223372036854775808)≤m∧m≤9223372036854775807)
theorem tc23 (h:TyC prog B n 23 cs):∃ l:(List Int),cs=[.lst ((List.map Qj) l)]∧ok23 B l:=by
 cases n with
 | zero=>exact h.elim
 | succ n =>
  simp only [TyC,ua23] at h
  obtain ⟨L,rfl,hl,hx⟩:=h
  obtain ⟨l,rfl,hm⟩:=exists_map (f:=fun m=>[(Qj m)]) (p:=fun m=>((-9223372036854775808)≤m∧m≤9223372036854775807)) (fun x hx'=>tc2 (hx x hx'))
  refine ⟨l,?_,by simpa using hl,hm⟩
  have e:(l.map (fun m=>[(Qj m)])).map (elemD prog 2)=l.map Qj:=by
   rw [List.map_map]; exact List.map_congr_left (fun m _=>by simp only [Function.comp_apply]; simp [elemD,aggB,ua2])
  rw [e]
structure ok37 (B:Nat) (x:Qq):Prop where
 shape:(ok35 B x.shape)
 data:(ok23 B x.data)
theorem tc37 (h:TyC prog B n 37 cs):∃ x:Qq,cs=[(.lst ((List.map Qj) x.shape)),(.lst ((List.map Qj) x.data))]∧ok37 B x:=by
 cases n with
 | zero=>exact h.elim
 | succ n =>
  simp only [TyC,ua37,List.foldr] at h
  obtain ⟨_,_,rfl,h0,_,_,rfl,h1,rfl⟩:=h
  obtain ⟨m0,rfl,i0⟩:=tc35 h0
  obtain ⟨m1,rfl,i1⟩:=tc23 h1
  exact ⟨⟨m0,m1⟩,rfl,i0,i1⟩
structure ok39 (B:Nat) (x:Qb):Prop where
 name:(x.name.size≤B)
 value:(ok37 B x.value)
theorem tc39 (h:TyC prog B n 39 cs):∃ x:Qb,cs=[(strD x.name),(.lst ((List.map Qj) x.value.shape)),(.lst ((List.map Qj) x.value.data))]∧ok39 B x:=by
 cases n with
 | zero=>exact h.elim
 | succ n =>
  simp only [TyC,ua39,List.foldr] at h
  obtain ⟨_,_,rfl,h0,_,_,rfl,h1,rfl⟩:=h
  obtain ⟨m0,rfl,i0⟩:=tc9 h0
  obtain ⟨m1,rfl,i1⟩:=tc37 h1
  exact ⟨⟨m0,m1⟩,rfl,i0,i1⟩
def ok22 (B:Nat) (x:(List Qb)):Prop:=x.length≤B∧∀ m∈x,(ok39 B m)
theorem tc22 (h:TyC prog B n 22 cs):∃ l:(List Qb),cs=[.lst ((List.map Qb.toD) l)]∧ok22 B l:=by
 cases n with
 | zero=>exact h.elim
 | succ n =>
  simp only [TyC,ua22] at h
  obtain ⟨L,rfl,hl,hx⟩:=h
  obtain ⟨l,rfl,hm⟩:=exists_map (f:=fun m=>[(strD m.name),(.lst ((List.map Qj) m.value.shape)),(.lst ((List.map Qj) m.value.data))]) (p:=fun m=>(ok39 B m)) (fun x hx'=>tc39 (hx x hx'))
  refine ⟨l,?_,by simpa using hl,hm⟩
  have e:(l.map (fun m=>[(strD m.name),(.lst ((List.map Qj) m.value.shape)),(.lst ((List.map Qj) m.value.data))])).map (elemD prog 39)=l.map Qb.toD:=by
   rw [List.map_map]; exact List.map_congr_left (fun m _=>by simp only [Function.comp_apply]; simp [elemD,aggB,ua39]; rfl)
  rw [e]
theorem ty22 {d:Dat} (h:TyA prog B 22 d):∃ m:(List Qb),d=(.lst ((List.map Qb.toD) m))∧(ok22 B m):=by
 obtain ⟨n,cs,h,hd⟩:=h
 obtain ⟨m,rfl,hm⟩:=tc22 h
 exact ⟨m,by rw [hd]; simp [elemD,aggB,ua22],hm⟩
theorem ty9 {d:Dat} (h:TyA prog B 9 d):∃ m:ByteArray,d=(strD m)∧(m.size≤B):=by
 obtain ⟨n,cs,h,hd⟩:=h
 obtain ⟨m,rfl,hm⟩:=tc9 h
 exact ⟨m,by rw [hd]; simp [elemD,aggB,ua9],hm⟩
def argTs:List TypeId:=[9,3,35,2,23,37,39,22,4]
theorem argTs_closed:closedTs prog argTs=true:=by kernel_rfl
theorem laidOut:laidOutB prog=true:=by kernel_rfl
theorem summ:SummOK prog env:=⟨(fun f s h=>by cases h),(fun f s h=>by cases h)⟩
theorem mixed:prog.follows .mixedOrders=true:=by kernel_rfl
theorem pure_of {f:FuncId} {dss:List Dat} {p:PV} (ho:p.out=true) (h:PC prog env f (dss.map .dat) [] p []):PureCall prog f dss p:=by
 obtain ⟨N,hN⟩:=h
 exact pure_sound summ mixed (hN N (Nat.le_refl _)) ho
end Go.Proofs.Tryz
