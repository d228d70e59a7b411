/-
 The pure machine: what a block lends; values that read as data.
-/
import Derived.Test.YtjcfpjpdopfefaaGreatPmSem
import Derived.LoopNIn
import Derived.TacticsIn
namespace Go.Pm
open Go Go.RowKit
set_option linter.unusedVariables false
section
variable {P:Program} {B0:Nat} {w0:World} {S0:Nat→Nat→Prop} {Nb:Nat} {F:Fence} {m:Nat} {pf:FuncId→Bool} {hint:FuncId→Hint} {call:CallF} {h:Hint}

def lenB (H:List Blk) (i:Nat):Nat:=match H[i]? with
 | some (.box cs)=>cs.length
 | some (.mt _ _ cs)=>mtLen cs
 | some (.tok _ _)=>0
 | some (.map _)=>0
 | some .hole=>0
 | none=>0
def Gh.drop (g:Gh) (H:List Blk) (h0:Nat):Gh:={ g with S:=fun b o=>g.S b o∨∃ i,h0≤i∧occ g H i=some b∧o < lenB H i }

theorem Ext.drop {g:Gh} {w:World} (N:Nat) (H:List Blk) (h0:Nat):Ext N g w (g.drop H h0) w :=
 ⟨fun _ _ h=>.inl h,fun _ _ _=>rfl,fun _ _ h=>⟨rfl,h⟩,fun _ _ v n h=>⟨v,n,h,j7 _,fun _=>rfl⟩⟩

theorem purgeC_rep {fl:Bool} {g:Gh} {H:List Blk} {h0:Nat} {w:World} {v:Value} {p:PV} (hH:Ql P g B0 H.length H w) (hr:RepV g H.length w v p):RepV (g.drop H h0) h0 w v (purgeC fl H h0 p):=by
 have he:Ext H.length g w (g.drop H h0) w:=Ext.drop _ _ _;cases hr with
 | dat v d hd=>exact .dat _ _ (hd.ext he)
 | agg=>exact .undef _
 | tup=>exact .undef _
 | vec v t es v0 n h1 h2 h3 h4 h5 =>
  simp only [purgeC];split
  ·rename_i hc; exact .vec _ _ _ v0 n hc.1 (h2.ext he) h3 h4 h5
  ·exact .dat _ _ (h2.ext he)
 | ptr i o hi =>
  simp only [purgeC];split
  ·exact .ptr (g:=g.drop H h0) i o ⟨by assumption,hi.2⟩
  ·exact .undef _
 | iptr b o cs c h1 h2=>exact .iptr b o cs c (fun i hi=>⟨(h1 i hi).1,.inl (h1 i hi).2⟩) (fun i u hu=>(h2 i u hu).ext he)
 | arr i o len cap hi hc =>
  simp only [purgeC];split
  ·exact .arr (g:=g.drop H h0) i o len cap ⟨by assumption,hi.2⟩ hc
  ·rename_i hge;split
   ·rename_i d hd;refine .dat _ _ ?_;simp only [pureC] at hd;split at hd
    ·rename_i cs hb;simp only [j5] at hd;obtain ⟨es,hd,rfl⟩:=hd;obtain ⟨k,_,c1,c2,c3,c4⟩:=arrDat_some hd;obtain ⟨_,⟨vals,ty,k1,k2,k3⟩,_⟩:=hH.box i cs hb;refine .lst (g.blk i) o len cap k es (fun j=>vals.getD (o+j) undef) c1.symm hc c2 (fun j hj=>?_) (fun i' j d u hd hu=>?_)
     ·have hlt:o+j < vals.size:=by omega
      refine ⟨?_,.inr ⟨i,by omega,occ_box hb,by simp only [lenB,hb]; omega⟩⟩;rw [cell_of_row w _ _ vals ty (0,0) k1,jH,jA hlt]; rfl
     ·obtain ⟨h2,_⟩:=c4 i' j d u hd hu;have hlt:o+(i' * k+j) < vals.size:=by rw [k2]; exact (List.getElem?_eq_some_iff.1 h2).1
      have:=(k3 (o+(i' * k+j)) _ _ (jA hlt) h2).datInv.ext he
      simpa [jH,jA hlt] using this
    ·cases hd
   ·exact .undef _
 | fn f vs cs h1 h2 =>
  simp only [purgeC];split
  ·rename_i hall;refine .fn _ _ _ h1 fun j v c g1 g2=>?_
   have hm:=List.all_eq_true.1 hall c (jF g2);have hr:=h2 j v c g1 g2;cases hr with
   | dat v d hd=>exact .dat _ _ (hd.ext he)
   | ptr i o hi=>exact .ptr (g:=g.drop H h0) i o ⟨by simpa using hm,hi.2⟩
   | iptr b o cs c k1 k2=>exact .iptr b o cs c (fun i hi=>⟨(k1 i hi).1,.inl (k1 i hi).2⟩) (fun i u hu=>(k2 i u hu).ext he)
   | _=>simp at hm
  ·exact .undef _
 | ms t gg lo len cp v v0 n h1 h2 h3 h4 h5 =>
  simp only [purgeC];split
  ·exact .ms (g:=g.drop H h0) t gg lo len cp v v0 n (by assumption) h2 h3 h4 h5
  ·split
   ·rename_i d hd;refine .dat _ _ ?_;simp only [pureC] at hd;split at hd
    ·rename_i te g' cs hb;split at hd
     ·rename_i hgg;rw [jK] at hd;obtain ⟨ds,hcut,hd⟩:=hd;split at hd
      ·rename_i hev;cases hd;have hb':=QH hb;simp only at hb';obtain ⟨v1,k1,k2⟩:=hH.mt t _ _ _ hb';rw [h2] at k1;simp only [j9,jI] at k1;obtain ⟨rfl,rfl⟩:=k1;exact mt_read k2 (h4 hgg.symm).1 hcut hev (by obtain ⟨a,c,e1,_,e2,_⟩:=h5; exact ⟨a,c,e1,e2⟩) he.S (fun b o hb2 ho=>.inr ⟨t,by omega,by rw [occ_mt hb',h2]; exact hb2,by simp only [lenB,hb']; exact ho⟩)
      ·cases hd
     ·cases hd
    ·cases hd
   ·exact .undef _
 | mp t gg j v v0 n h1 h2 h3 h4 h5 =>
  simp only [purgeC];split
  ·exact .mp (g:=g.drop H h0) t gg j v v0 n (by assumption) h2 h3 h4 h5
  ·exact .undef _
 | mapv i hi =>
  simp only [purgeC];split
  ·exact .mapv (g:=g.drop H h0) i ⟨by assumption,hi.2⟩
  ·exact .undef _
 | empv b v h1 h2=>exact .empv b v h1 h2
 | undef=>exact .undef _

end
section
variable {P:Program} {B0:Nat} {w0:World} {S0:Nat→Nat→Prop} {g:Gh} {H H':List Blk} {w:World} {p:PV}

theorem pureC_lend {v:Value} {d:Dat} (hH:Ql P g B0 H.length H w) (hr:RepV g H.length w v p) (hp:pureC H p=some d):RepD w (g.drop H 0).S v d:=by
 have h:=purgeC_rep (fl:=false) (h0:=0) hH hr;cases p with
 | dat d'=>simp [pureC] at hp; subst hp; exact h.datInv
 | vec t es=>simp [pureC] at hp; subst hp; simp only [purgeC,Nat.not_lt_zero,false_and,if_false] at h; exact h.datInv
 | arr i o len cap=>simp only [purgeC,Nat.not_lt_zero,if_false,hp] at h; exact h.datInv
 | ms t gg lo len cp=>simp only [purgeC,Nat.not_lt_zero,if_false,hp] at h; exact h.datInv
 | empv b =>
  simp [pureC] at hp; subst hp;cases hr with
  | empv b v h1 h2 =>
   cases b with
   | true=>rw [h1 rfl]; exact .nil
   | false=>obtain ⟨a,cap,rfl⟩:=h2 rfl; exact .empty a cap
 | _=>simp [pureC] at hp

theorem pure1_lend {v:Value} {d:Dat} (hH:Ql P g B0 H.length H w) (hr:RepV g H.length w v p) (hp:pure1 H p=some d):RepD w (g.drop H 0).S v d:=by
 cases p with
 | agg cs =>
  simp only [pure1,j5] at hp;obtain ⟨ds,hp,rfl⟩:=hp;obtain ⟨p1,p2⟩:=pureCs_some _ _ hp;cases hr with
  | agg vs cs h1 h2 =>
   refine .agg _ _ y5 fun j v d g1 g2=>?_
   have hlt:j < cs.length:=by rw [← p1]; exact (List.getElem?_eq_some_iff.1 g2).1
   have hc:cs[j]? = some cs[j]:=jC hlt;exact pureC_lend hH (h2 j v _ g1 hc) (p2 j _ d hc g2)
 | _=>exact pureC_lend hH hr hp

theorem scalar_any {S S':Nat→Nat→Prop} {w':World} {v:Value} {d:Dat} (h:RepD w S v d) (hd:d.scalar=true):RepD w' S' v d:=by
 cases h with
 | raw v h=>exact .raw v h
 | agg vs cs h1 h2 =>
  refine .agg vs cs h1 fun j v c g1 g2=>?_
  have hm:=List.all_eq_true.1 hd c (jF g2);have hr:=h2 j v c g1 g2;cases c with
  | raw u=>cases hr with|raw _ h=>exact .raw _ h
  | _=>simp at hm
 | _=>simp [Dat.scalar] at hd

end
end Go.Pm
