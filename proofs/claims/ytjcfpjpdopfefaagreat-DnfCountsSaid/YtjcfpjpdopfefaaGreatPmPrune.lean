/-
 The pure machine: soundness of what a loop's head forgets.
-/
import Derived.Test.YtjcfpjpdopfefaaGreatPmRun
namespace Go.Pm
open Go Go.RowKit
set_option linter.unusedVariables false
section
variable {P:Program} {B0:Nat} {w0:World} {S0:Nat→Nat→Prop} {Nb:Nat} {F:Fence} {m:Nat} {pf:FuncId→Bool} {hint:FuncId→Hint} {call:CallF} {h:Hint}


theorem pureC_lst {H:List Blk} {p:PV} {d:Dat} (h:pureC H p=some d) (hp:p.isArr=true):∃ l,d=.lst l:=by
 cases p with
 | arr i o len cap =>
  simp only [pureC] at h;split at h
  ·rw [j5] at h;obtain ⟨ds,_,rfl⟩:=h;exact ⟨_,rfl⟩
  ·cases h
 | ms t g lo len cap =>
  simp only [pureC] at h;split at h
  ·split at h
   ·rw [jK] at h;obtain ⟨ds,_,h⟩:=h;split at h
    ·cases h; exact ⟨_,rfl⟩
    ·cases h
   ·cases h
  ·cases h
 | _=>simp [PV.isArr] at hp
theorem purgeC_flat {fl:Bool} {H:List Blk} {h0:Nat} {c:PV} (h:c.flat=true):(purgeC fl H h0 c).flat=true:=by
 cases c with
 | dat d=>exact h
 | vec t es=>simp only [purgeC]; split <;> rfl
 | arr i o len cap =>
  simp only [purgeC];split
  ·rfl
  ·split
   ·rename_i d hd; obtain ⟨l,rfl⟩:=pureC_lst hd rfl; rfl
   ·rfl
 | ms t g lo len cap =>
  simp only [purgeC];split
  ·rfl
  ·split
   ·rename_i d hd; obtain ⟨l,rfl⟩:=pureC_lst hd rfl; rfl
   ·rfl
 | ptr|mp|mapv|fn=>simp only [purgeC]; split <;> rfl
 | _=>rfl
theorem purgeV_rep {fl:Bool} {g:Gh} {H:List Blk} {h0:Nat} {w:World} {v:Value} {p:PV} (hH:Ql P g B0 H.length H w) (hr:RepV g H.length w v p):RepV (g.drop H h0) h0 w v (purgeV fl H h0 p):=by
 unfold purgeV;split
 ·rename_i cs;cases hr with
  | agg vs cs h1 h2 =>
   refine RepV.mkAgg (by simpa using h1) fun j v c g1 g2=>?_
   simp only [jD,j5] at g2;obtain ⟨c',g2,rfl⟩:=g2;exact purgeC_rep hH (h2 j v c' g1 g2)
 ·cases hr with
  | tup vs cs h1 h2=>exact .tup _ _ h1 fun j v c g1 g2=>by simp at g2
 ·exact purgeC_rep hH hr

theorem keepS_get {fl:Bool} (H:List Blk) (h0:Nat) (ks:List Nat):∀ (s:List PV) (i j:Nat),(keepS fl H h0 ks i s)[j]? = (s[j]?).map fun v=>if ks.contains (i+j) then purgeV fl H h0 v else .undef
 | [],i,j=>by simp [keepS]
 | v::r,i,j=>by
  cases j with
  | zero=>simp [keepS]
  | succ j=>simp only [keepS,List.getElem?_cons_succ]; rw [keepS_get H h0 ks r (i+1) j,show i+1+j=i+(j+1) by omega]

theorem keepS_length {fl:Bool} (H:List Blk) (h0:Nat) (ks:List Nat):∀ (s:List PV) (i:Nat),(keepS fl H h0 ks i s).length=s.length
 | [],i=>rfl
 | v::r,i=>by simp [keepS,keepS_length H h0 ks r (i+1)]

theorem prune_ok {g:Gh} {st:St} {a:Act} {w:World} {h0:Nat} (keep:Option (List Nat)) (hst:StOK P B0 w0 S0 h0 g st a w):∃ g',Ext h0 g w g' w∧Fr g st.heap w g' (prune h0 keep st).heap w∧StOK P B0 w0 S0 h0 g' (prune h0 keep st) a w:=by
 cases keep with
 | none=>exact ⟨g,Ext.refl _ _ _,Fr.refl _ _ _,hst⟩
 | some ks =>
  have hlen:(st.heap.take h0).length=h0:=by simp [hst.base]
  have he:Ext st.heap.length g w (g.drop st.heap h0) w:=Ext.drop _ _ _
  suffices hs:(∀ i b,occ (g.drop st.heap h0) ((st.heap.take h0).map (purgeB (fgt ks) st.heap h0)) i=some b→i < h0∧occ g st.heap i=some b)∧StOK P B0 w0 S0 h0 (g.drop st.heap h0) (prune h0 (some ks) st) a w from
   ⟨g.drop st.heap h0,Ext.drop _ _ _,Fr.old (j7 _) (fun _ _=>rfl) (fun i b h _=>⟨i,(hs.1 i b h).2⟩) (fun b o h=>h.imp id fun ⟨i,_,hi,_⟩=>.inr ⟨i,hi⟩),hs.2⟩
  have hget:∀ i x,((st.heap.take h0).map (purgeB (fgt ks) st.heap h0))[i]? = some x→∃ y,i < h0∧st.heap[i]? = some y∧x=purgeB (fgt ks) st.heap h0 y:=fun i x hx=>by
   simp only [jD,j5] at hx;obtain ⟨y,hy,rfl⟩:=hx;rw [jR] at hy;split at hy
   ·exact ⟨y,by assumption,hy,rfl⟩
   ·cases hy
  have hocc:∀ i b,occ (g.drop st.heap h0) ((st.heap.take h0).map (purgeB (fgt ks) st.heap h0)) i=some b→i < h0∧occ g st.heap i=some b:=fun i b hb=>by
   unfold occ at hb;split at hb
   ·rename_i cs hi;obtain ⟨y,h1,h2,h3⟩:=hget i _ hi;cases y with
    | hole=>simp [purgeB] at h3
    | box cs'=>exact ⟨h1,by rw [occ_box h2]; exact hb⟩
    | tok=>simp [purgeB] at h3
    | mt=>simp [purgeB] at h3
    | map=>simp [purgeB] at h3
   ·rename_i e n hi;obtain ⟨y,h1,h2,h3⟩:=hget i _ hi;cases y with
    | hole=>simp [purgeB] at h3
    | box cs'=>simp [purgeB] at h3
    | tok e' n'=>exact ⟨h1,by rw [occ_tok h2]; exact hb⟩
    | mt=>simp [purgeB] at h3
    | map=>simp [purgeB] at h3
   ·rename_i e n cs hi;obtain ⟨y,h1,h2,h3⟩:=hget i _ hi;cases y with
    | hole=>simp [purgeB] at h3
    | box cs'=>simp [purgeB] at h3
    | tok e' n'=>simp [purgeB] at h3
    | mt e' n' cs'=>exact ⟨h1,by rw [occ_mt h2]; exact hb⟩
    | map=>simp [purgeB] at h3
   ·rename_i es hi;obtain ⟨y,h1,h2,h3⟩:=hget i _ hi;cases y with
    | hole=>simp [purgeB] at h3
    | box cs'=>simp [purgeB] at h3
    | tok e' n'=>simp [purgeB] at h3
    | mt e' n' cs'=>simp [purgeB] at h3
    | map es'=>exact ⟨h1,by rw [occ_map h2]; exact hb⟩
   ·cases hb
   ·cases hb
  -- what was published now lies in blocks that were boxes from h0 on
  have hnew:∀ i b o,i < h0→occ g st.heap i=some b→(g.drop st.heap h0).S b o→g.S b o:=fun i b o hi hb hs=>by
   rcases hs with hs|⟨j,hj,hjb,_⟩
   ·exact hs
   ·have:=hst.heap.sep i j _ hb hjb; omega
  refine ⟨hocc,?_,?_,?_,by simp [prune]; exact Nat.le_min.2 ⟨j7 _,hst.base⟩⟩
  ·simp only [prune,jY,hlen];refine ⟨fun i cs hi=>?_,fun i e n hi=>?_,fun i e n cs hi=>?_,fun i es hi=>?_,fun i e cs hi=>?_,fun i x hi=>?_,fun i j b h1 h2=>hst.heap.sep i j b (hocc i b h1).2 (hocc j b h2).2⟩
   ·obtain ⟨y,h1,h2,h3⟩:=hget i _ hi;cases y with
    | hole=>simp [purgeB] at h3
    | tok=>simp [purgeB] at h3
    | mt=>simp [purgeB] at h3
    | map=>simp [purgeB] at h3
    | box cs' =>
     simp only [purgeB,Blk.box.injEq] at h3;subst h3;obtain ⟨b1,⟨vals,ty,b2,b3,b4⟩,b5⟩:=hst.heap.box i cs' h2;refine ⟨b1,⟨vals,ty,b2,by simpa using b3,fun j v c g1 g2=>?_⟩,fun o ho=>b5 o (hnew i _ o h1 (occ_box h2) ho)⟩;simp only [jD,j5] at g2;obtain ⟨c',g2,rfl⟩:=g2;exact purgeC_rep hst.heap (b4 j v c' g1 g2)
   ·obtain ⟨y,h1,h2,h3⟩:=hget i _ hi;cases y with
    | hole=>simp [purgeB] at h3
    | box cs'=>simp [purgeB] at h3
    | tok e' n' =>
     simp only [purgeB,Blk.tok.injEq] at h3;obtain ⟨rfl,rfl⟩:=h3;obtain ⟨v0,t1,t2⟩:=hst.heap.tok i _ _ h2;exact ⟨v0,t1,t2.keep (fun _ _=>rfl) (fun b hb o ho=>hnew i b o h1 (by rw [occ_tok h2,t1]; exact hb) ho)⟩
    | mt=>simp [purgeB] at h3
    | map=>simp [purgeB] at h3
   ·obtain ⟨y,h1,h2,h3⟩:=hget i _ hi;cases y with
    | hole=>simp [purgeB] at h3
    | box cs'=>simp [purgeB] at h3
    | tok e' n'=>simp [purgeB] at h3
    | map=>simp [purgeB] at h3
    | mt e' n' cs' =>
     simp only [purgeB,Blk.mt.injEq] at h3;obtain ⟨rfl,rfl,rfl⟩:=h3;obtain ⟨v0,t1,t2⟩:=hst.heap.mt i _ _ _ h2;refine ⟨v0,t1,?_⟩;rcases t2 with ⟨rfl,hn⟩|⟨b,l,cap,cur,rfl,q0,q1,q2,q3,q4,q5,q6,q7,q8⟩|⟨b,l,cap,cur,size,da,rfl,q0,q1,q2,q3,q3',rfl,q4,q4',q5,q6,q7,q8⟩
     ·exact .inl ⟨rfl,hn⟩
     ·refine .inr (.inl ⟨b,l,cap,cur,rfl,q0,q1,q2,q3,⟨by simpa using q4.1,by
       rw [List.all_map,j8];exact fun x hx=>purgeC_flat (List.all_eq_true.1 q4.2 x hx)⟩,q5,q6,fun o ho=>q7 o (hnew i b o h1 (by rw [occ_mt h2,t1]; simp [mtBlock]; omega) ho),fun j v c g1 g2=>?_⟩)
      simp only [jD,j5] at g2;obtain ⟨c',g2,rfl⟩:=g2;exact purgeC_rep hst.heap (q8 j v c' g1 g2)
     ·refine .inr (.inr ⟨b,l,cap,cur,size,da,rfl,q0,q1,q2,q3,q3',?_,q4,q4',q5,q6,fun o ho=>q7 o (hnew i b o h1 (by rw [occ_mt h2,t1]; simp [mtBlock]; omega) ho),fun i' j d u v a1 a2 a3=>(q8 i' j d u v a1 a2 a3).ext he⟩);rw [zD];rfl
   ·obtain ⟨y,h1,h2,h3⟩:=hget i _ hi;cases y with
    | hole=>simp [purgeB] at h3
    | box cs'=>simp [purgeB] at h3
    | tok e' n'=>simp [purgeB] at h3
    | mt=>simp [purgeB] at h3
    | map es' =>
     simp only [purgeB,Blk.map.injEq] at h3;subst h3;obtain ⟨b1,⟨arr,clock,b2,b3,b4⟩,b5⟩:=hst.heap.map i es' h2;refine ⟨b1,⟨arr,clock,b2,by simpa using b3,fun j v c g1 g2=>?_⟩,fun o ho=>b5 o (hnew i _ o h1 (occ_map h2) ho)⟩;simp only [jD,j5] at g2;obtain ⟨c',g2,rfl⟩:=g2;exact ⟨(b4 j v c' g1 g2).1,purgeV_rep hst.heap (b4 j v c' g1 g2).2⟩
   ·obtain ⟨y,h1,h2,h3⟩:=hget i _ hi;cases y with
    | hole=>simp [purgeB] at h3
    | box cs'=>simp [purgeB] at h3
    | tok e' n'=>simp [purgeB] at h3
    | map=>simp [purgeB] at h3
    | mt e' n' cs' =>
     simp only [purgeB,Blk.mt.injEq] at h3;obtain ⟨rfl,rfl,rfl⟩:=h3;exact hst.heap.mt0 i _ _ h2
   ·obtain ⟨y,h1,h2,rfl⟩:=hget i _ hi;refine ⟨fun hp=>(hst.heap.live i y h2).1 (by cases y <;> first|trivial|exact hp),fun hx=>(hst.heap.live i y h2).2 (by cases y <;> simp [purgeB] at hx ⊢)⟩
  ·refine ⟨hst.inv.below,hst.inv.size,fun b o hs=>?_,fun b o hs=>?_⟩
   ·rcases hs with hs|⟨j,hj,hjb,_⟩
    ·exact hst.inv.old b o hs
    ·exact .inr (hst.heap.occ_lt hjb).1
   ·rcases hs with hs|⟨j,hj,hjb,_⟩
    ·exact hst.inv.lt b o hs
    ·exact (hst.heap.occ_lt hjb).2.1
  ·simp only [prune,jY,hlen];refine ⟨by rw [keepS_length]; exact hst.rep.1,fun t=>?_,hst.rep.glob.ofS fun _ _ h=>.inl h⟩;have hr:=hst.rep.2 t;rw [jB,keepS_get,zW];rw [jB] at hr;cases hs:st.slots[t]? with
   | none =>
    rw [hs] at hr;simp only [Option.map_none,Option.getD_none] at hr ⊢;generalize a.tmps.getD t undef=v at hr ⊢;cases hr with
    | tup vs cs h1 h2=>exact .tup _ _ h1 fun j v c g1 g2=>by simp at g2
   | some p =>
    rw [hs] at hr;simp only [jN,Option.getD_some] at hr ⊢;split
    ·exact purgeV_rep hst.heap hr
    ·exact .undef _

def exOf:Ex→Exit
 | .normal=>.normal
 | .exit id=>.exit id
 | .ret=>.ret

end
end Go.Pm
