/-
 The pure machine: soundness of indexing, slicing, fields, stores, new variables.
-/
import Derived.Test.YtjcfpjpdopfefaaGreatPmOps2
namespace Go.Pm
open Go Go.RowKit
set_option linter.unusedVariables false
section
variable {P:Program} {B0:Nat} {w0:World} {S0:Nat→Nat→Prop} {g:Gh} {H H':List Blk} {w:World} {p:PV} {o:Oper} {a:Act} {ρ:Operand→PV}

def asLst:PV→Option (List Dat)
 | .dat (.lst es)=>some es
 | .vec _ es=>some es
 | _=>none

theorem asLst_rep {N:Nat} {v:Value} {p:PV} {es:List Dat} (h:RepV g N w v p) (hp:asLst p=some es):RepD w g.S v (.lst es):=by
 cases h with
 | dat v d h=>cases d <;> simp [asLst] at hp; subst hp; exact h
 | vec v t es' v0 n h1 h2=>simp [asLst] at hp; subst hp; exact h2
 | _=>simp [asLst] at hp

theorem int_rep {N:Nat} {v:Value} {k:IntKind} {n:Int} (h:RepV g N w v (.dat (.raw (.int k n)))):v=.int k n:=h.toVal rfl

theorem indexAddr_run {t e:TypeId} {x ix:Operand} {k:IntKind} {n:Int} {b off len cap size:Nat} (ho:o.op=.indexAddr t x ix) (he:elemOfSlice P t=some e) (hs:szOf P e=some size)
  (hix:a.eval ix=.int k n) (hx:a.eval x=.slice (some ⟨b,off,none⟩) len cap) (h0:0≤n) (hn:n.toNat < len) :
  (execOp a.eval o).run P w=.ok (.value (.pointer (some ⟨b,off+n.toNat * size,none⟩))) w:=by
 have h1:n < (len:Int):=by omega
 simp [execOp,ho,Instr.indexAt,run_underlying (Qx he),hix,hx,asIntOf,h0,h1,run_szOf hs,add_lit]

theorem arr_under {t e:TypeId} {len:Nat} (h:elemOfArray P t=some (len,e)):P.underlying t=some (.array len e):=by
 unfold elemOfArray at h;split at h
 ·cases h; assumption
 ·cases h
theorem indexAddr_iptr_ok {t e:TypeId} {x ix:Operand} {k:IntKind} {n:Int} {len size:Nat} {cs:List Dat} (ho:o.op=.indexAddr t x ix) (he:elemOfArray P t=some (len,e)) (hs:szOf P e=some size)
  (hix:ρ ix=.dat (.raw (.int k n))) (hx:ρ x=.iptr cs) (h0:0≤n) (hn:n < (len:Int))
  (hH:Ql P g B0 H.length H w) (hi:Inv B0 w0 S0 g w) (hρ:∀ x,RepV g H.length w (a.eval x) (ρ x)) :
  ∃ v g' w',OpRes P o a w v w'∧Good P B0 w0 S0 H g w (.iptr (cs.drop (n.toNat * size))) H v g' w':=by
 have hi':=int_rep (by rw [← hix]; exact hρ ix);have h:=hρ x;rw [hx] at h;generalize hv:a.eval x=v at h;cases h with
 | iptr b o cs c h1 h2 =>
  obtain ⟨k1,k2⟩:=RepD_drop (n.toNat * size) h1 h2;refine ⟨.pointer (some ⟨b,o+n.toNat * size,none⟩),g,w,.inl ?_,.same hH hi (.iptr _ _ _ (fun i=>c (n.toNat * size+i)) k1 k2)⟩;simp [execOp,ho,Instr.indexAt,run_underlying (arr_under he),hi',hv,asIntOf,h0,hn,run_szOf hs,add_lit,Instr.sureAddr]

theorem indexAddr_ptr_ok {t e:TypeId} {x ix:Operand} {k:IntKind} {n:Int} {len size i off:Nat} (ho:o.op=.indexAddr t x ix) (he:elemOfArray P t=some (len,e)) (hs:szOf P e=some size)
  (hix:ρ ix=.dat (.raw (.int k n))) (hx:ρ x=.ptr i off) (h0:0≤n) (hn:n < (len:Int))
  (hH:Ql P g B0 H.length H w) (hi:Inv B0 w0 S0 g w) (hρ:∀ x,RepV g H.length w (a.eval x) (ρ x)) :
  ∃ v g' w',OpRes P o a w v w'∧Good P B0 w0 S0 H g w (.ptr i (off+n.toNat * size)) H v g' w':=by
 have hi':=int_rep (by rw [← hix]; exact hρ ix);have h:=hρ x;rw [hx] at h;generalize hv:a.eval x=v at h;cases h with
 | ptr i o hio =>
  refine ⟨_,g,w,.inl ?_,.same hH hi (.ptr _ _ hio)⟩;simp [execOp,ho,Instr.indexAt,run_underlying (arr_under he),hi',hv,asIntOf,h0,hn,run_szOf hs,add_lit,Instr.sureAddr]

theorem indexAddr_lst_ok {t e:TypeId} {x ix:Operand} {k:IntKind} {n:Int} {size:Nat} {es:List Dat} {d:Dat} (ho:o.op=.indexAddr t x ix) (he:elemOfSlice P t=some e) (hs:szOf P e=some size)
  (hix:ρ ix=.dat (.raw (.int k n))) (hx:asLst (ρ x)=some es) (h0:0≤n) (hd:es[n.toNat]? = some d) (hnum:d.num=size)
  (hH:Ql P g B0 H.length H w) (hi:Inv B0 w0 S0 g w) (hρ:∀ x,RepV g H.length w (a.eval x) (ρ x)) :
  ∃ v g' w',OpRes P o a w v w'∧Good P B0 w0 S0 H g w (.iptr d.cells) H v g' w':=by
 have hi':=int_rep (by rw [← hix]; exact hρ ix);have hr:=asLst_rep (hρ x) hx;have hlt:=(List.getElem?_eq_some_iff.1 hd).1;generalize hv:a.eval x=v at hr;cases hr with
 | nil=>simp at hlt
 | empty=>simp at hlt
 | lst b off len cap k' es c h1 h1' h2 h3 h4 =>
  have hk:k'=size:=by rw [← hnum]; exact (h2 d (jF hd)).symm
  subst hk;refine ⟨_,g,w,.inl (indexAddr_run ho he hs hi' hv h0 y5),.same hH hi (.iptr _ _ _ (fun j=>c (n.toNat * k'+j)) (fun j hj=>?_) (fun j u hu=>h4 _ _ d u hd hu))⟩;have hj':j < k':=by rw [← Dat.num_eq,hnum] at hj; exact hj
  have hle:n.toNat * k'+j < len * k':=by
   have:(n.toNat+1) * k'≤len * k':=Nat.mul_le_mul_right _ y5
   rw [Nat.add_mul] at this; omega
  have:=h3 _ hle;rw [show off+n.toNat * k'+j=off+(n.toNat * k'+j) by omega];exact this

theorem indexAddr_arr_ok {t e:TypeId} {x ix:Operand} {k:IntKind} {n:Int} {size i off len cap:Nat} (ho:o.op=.indexAddr t x ix) (he:elemOfSlice P t=some e) (hs:szOf P e=some size)
  (hix:ρ ix=.dat (.raw (.int k n))) (hx:ρ x=.arr i off len cap) (h0:0≤n) (hd:n.toNat < len)
  (hH:Ql P g B0 H.length H w) (hi:Inv B0 w0 S0 g w) (hρ:∀ x,RepV g H.length w (a.eval x) (ρ x)) :
  ∃ v g' w',OpRes P o a w v w'∧Good P B0 w0 S0 H g w (.ptr i (off+n.toNat * size)) H v g' w':=by
 have hi':=int_rep (by rw [← hix]; exact hρ ix);have hr:=hρ x;rw [hx] at hr;generalize hv:a.eval x=v at hr;cases hr with
 | arr i o len cap h h'=>exact ⟨_,g,w,.inl (indexAddr_run ho he hs hi' hv h0 hd),.same hH hi (.ptr _ _ h)⟩

theorem RepD.slice {S:Nat→Nat→Prop} {es:List Dat} {l h size b off len cap k:Nat} {c:Nat→Value} (h1:len=es.length) (h1':len≤cap) (h2:∀ d,d∈es→d.num=k)
  (h3:∀ i,i < len * k→w.cell? ⟨b,off+i,none⟩=some (c i)∧S b (off+i)) (h4:∀ (i j:Nat) d u,es[i]? = some d→d.cells[j]? = some u→RepD w S (c (i * k+j)) u)
  (hl:l≤h) (hh:h≤es.length) (hs:l=0∨k=size∨es=[]) :
  RepD w S (.slice (if cap=l then some ⟨b,off,none⟩ else some ((⟨b,off,none⟩:Addr).add (l * size))) (h - l) (cap - l)) (.lst ((es.take h).drop l)):=by
 by_cases hlen:h - l=0
 ·have:(es.take h).drop l=[]:=by apply List.eq_nil_of_length_eq_zero; simp; omega
  rw [this,hlen];split <;> exact .empty _ _
 ·rw [if_neg y5]
  have hsz:l * size=l * k:=by
   rcases hs with hs|hs|hs
   ·subst hs; simp
   ·rw [hs]
   ·subst hs; simp at hh; omega
  rw [add_lit,hsz];refine .lst b (off+l * k) (h - l) (cap - l) k _ (fun i=>c (l * k+i)) y6 y5 (fun d hd=>h2 d (zP (List.mem_of_mem_drop hd))) (fun i hi=>?_) (fun i j d u hd hu=>?_)
  ·have:(h - l) * k+l * k=h * k:=by rw [← Nat.add_mul]; congr 1; omega
   have h':h * k≤len * k:=Nat.mul_le_mul_right _ y5;have:=h3 (l * k+i) y5
   rwa [Nat.add_assoc]
  ·rw [zG,jR] at hd;split at hd
   ·have:=h4 (l+i) j d u hd hu
    rwa [Nat.add_mul,Nat.add_assoc] at this
   ·cases hd

theorem run_bound {x:Value} {n y:Nat} {k:IntKind} (code:BoundsCode) (hx:x=.int k n) (hn:n≤y) (w:World):(Instr.sliceBound x y code).run P w=.ok n w:=by
 subst hx;simp [Instr.sliceBound,asIntOf]; omega

theorem slice_lst_ok {t e:TypeId} {x:Operand} {lo hi:Option Operand} {l h size:Nat} {es:List Dat} (ho:o.op=.slice t x lo hi none) (he:elemOfSlice P t=some e) (hsz:szOf P e=some size)
  (hx:asLst (ρ x)=some es) (hlo:bndOf ρ 0 lo=some l) (hhi:bndOf ρ es.length hi=some h)
  (hlh:l≤h) (hhe:h≤es.length) (hs:l=0∨∀ d∈es,d.num=size)
  (hH:Ql P g B0 H.length H w) (hi':Inv B0 w0 S0 g w) (hρ:∀ x,RepV g H.length w (a.eval x) (ρ x)) :
  ∃ v g' w',OpRes P o a w v w'∧Good P B0 w0 S0 H g w (.dat (.lst ((es.take h).drop l))) H v g' w':=by
 have hr:=asLst_rep (hρ x) hx
 obtain ⟨ad,len,cap,hv,hlen,hcap,hrep⟩:∃ ad len cap,a.eval x=.slice ad len cap∧len=es.length∧len≤cap ∧
   RepD w g.S (.slice (if cap=l then ad else ad.map (·.add (l * size))) (h - l) (cap - l)) (.lst ((es.take h).drop l)):=by
  generalize a.eval x=v at hr;cases hr with
  | nil =>
   simp at hhe; subst hhe;obtain rfl:l=0:=by omega
   exact ⟨none,0,0,rfl,rfl,j7 _,by simpa using RepD.nil⟩
  | empty ad cap =>
   simp at hhe; subst hhe;obtain rfl:l=0:=by omega
   refine ⟨some ad,0,cap,rfl,rfl,zN _,?_⟩;simp only [Nat.sub_self,List.take_nil,List.drop_nil,jN];split <;> exact .empty _ _
  | lst b off len cap k es c h1 h1' h2 h3 h4 =>
   refine ⟨_,_,_,rfl,h1,h1',?_⟩;refine RepD.slice h1 h1' h2 h3 h4 hlh hhe ?_;rcases hs with hs|hs
   ·exact .inl hs
   ·cases es with
    | nil=>exact .inr (.inr rfl)
    | cons d es=>exact .inr (.inl (by rw [← hs d y7,h2 d y7]))
 refine ⟨_,g,w,.inl ?_,.same hH hi' (.dat _ _ hrep)⟩
 have hb:(Instr.sliceBounds true len cap (lo.map a.eval) (hi.map a.eval) none).run P w=.ok (l,h,cap) w:=by
  unfold Instr.sliceBounds;cases hi with
  | none =>
   cases lo with
   | none=>simp [bndOf] at hlo hhi; subst hlo hhi; simp [hlen]
   | some lo =>
    obtain ⟨k,hk⟩:=natOf_rep (hρ lo) hlo;simp [bndOf] at hhi; subst hhi;simp [run_bound (P:=P) .sliceB hk hlh w,hlen]
  | some hi =>
   obtain ⟨k',hk'⟩:=natOf_rep (hρ hi) hhi;cases lo with
   | none=>simp [bndOf] at hlo; subst hlo; simp [run_bound (P:=P) .sliceAcap hk' (show h≤cap by omega) w]
   | some lo =>
    obtain ⟨k,hk⟩:=natOf_rep (hρ lo) hlo;simp [run_bound (P:=P) .sliceB hk hlh w,run_bound (P:=P) .sliceAcap hk' (show h≤cap by omega) w]
 simp [execOp,ho,Instr.sliceAt,Instr.slice,run_underlying (Qx he),hv,hb,run_szOf hsz]

end
end Go.Pm
