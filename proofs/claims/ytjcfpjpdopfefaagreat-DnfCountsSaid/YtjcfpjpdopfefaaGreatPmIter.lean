/-
 The pure machine: two parties (an iterator, and the loop that ranges over it), and soundness of the iterator's code.
-/
import Derived.Test.YtjcfpjpdopfefaaGreatPmPrune
import Derived.RangeFuncOwn
namespace Go.Pm
open Go Go.RowKit
set_option linter.unusedVariables false

section
variable {P:Program} {B0 N:Nat} {w0 w:World} {S0:Nat→Nat→Prop} {g g0:Gh} {H H0:List Blk} {r:Nat} {o o':Obj}

def isMapObj:Obj→Bool
 | .map _ _|.stringIter _ _=>true
 | _=>false
theorem Ql.occ_cells {W:World} (hH:Ql P g B0 N H W) {i b:Nat} (h:occ g H i=some b):∃ x,W.heap[b]? = some x∧(x.isCells=true∨isMapObj x=true):=by
 unfold occ at h;split at h
 ·rename_i cs hi;cases h;obtain ⟨h1,⟨vals,ty,h2,_⟩,_⟩:=hH.box i cs hi;exact ⟨_,h2,.inl rfl⟩
 ·rename_i e n hi;obtain ⟨v0,h1,h2⟩:=hH.tok i e n hi;rw [h1] at h;rcases h2 with ⟨rfl,_⟩|⟨b',cap,cur,size,rfl,h3,h4,_⟩
  ·simp [Value.ownBlock] at h
  ·simp [Value.ownBlock] at h; subst h; exact ⟨_,h4,.inl rfl⟩
 ·rename_i e n cs hi;obtain ⟨v0,h1,h2⟩:=hH.mt i e n cs hi;rw [h1] at h;rcases h2 with ⟨_,rfl|⟨a,rfl⟩⟩|⟨b',l,cap,cur,rfl,h3,h4,h5,_⟩|⟨b',l,cap,cur,size,ds,rfl,h3,h4,h5,_⟩
  ·simp [mtBlock] at h
  ·simp [mtBlock] at h
  ·simp [mtBlock] at h; obtain ⟨_,rfl⟩:=h; exact ⟨_,h5,.inl rfl⟩
  ·simp [mtBlock] at h; obtain ⟨_,rfl⟩:=h; exact ⟨_,h5,.inl rfl⟩
 ·rename_i es hi;cases h;obtain ⟨h1,⟨arr,o,⟨h2,h3⟩,_⟩,_⟩:=hH.map i es hi;exact ⟨_,h2,.inr (by cases o <;> first|rfl|cases h3)⟩
 ·cases h
 ·cases h

theorem Ql.occ_not {W:World} (hH:Ql P g B0 N H W) (h:W.heap[r]? = some o) (ho:o.isCells=false) (hom:isMapObj o=false) (i:Nat):occ g H i≠some r:=fun e=>by
 obtain ⟨x,hc,hx⟩:=hH.occ_cells e;rw [h] at hc; cases hc; rcases hx with hx|hx <;> simp_all

theorem Ql.put {W:World} (hH:Ql P g B0 N H W) (hl:H.length≤N) (h:W.heap[r]? = some o) (ho:o.isCells=false) (ho':o'.isCells=false) (hom:isMapObj o=false:=by rfl):Ql P g B0 N H (W.putObj r o') :=
 hH.keep (Ext.put N g h ho ho') (j7 _) hl (fun i b hb=>World.putObj_heap_other fun e=>hH.occ_not h ho hom i (by rw [hb,e])) (fun _ _ _ _ h=>h) (fun _ _=>rfl)

theorem Inv.put {W:World} (hi:Inv B0 w0 S0 g W) (hr:B0≤r):Inv B0 w0 S0 g (W.putObj r o') :=
 ⟨Below.putObj hi.below hr,by simpa using hi.size,hi.old,fun b o h=>by simpa using hi.lt b o h⟩

theorem Fr.put {W:World} (hf:Fr g0 H0 w g H W) (hr:w.heap.size≤r):Fr g0 H0 w g H (W.putObj r o') :=
 ⟨by simpa using hf.size,fun b hb hn=>(World.putObj_heap_other y5).trans (hf.keep b hb hn),hf.occ,hf.pub⟩

theorem side {k g':Gh} {K H':List Blk} {w':World} (hk:Ql P k B0 N K w) (hl:K.length≤N) (hS:k.S=g.S) (he:Ext 0 g w g' w') (hf:Fr g H w g' H' w')
  (hd:∀ i j b,occ k K i=some b→occ g H j=some b→False) (M:Nat) :
  Ext M k w { k with S:=g'.S } w'∧Ql P { k with S:=g'.S } B0 N K w'∧∀ i j b,occ { k with S:=g'.S } K i=some b→occ g' H' j=some b→False:=by
 have hx:∀ M,Ext M k w { k with S:=g'.S } w':=fun M=>⟨fun b o h=>he.S b o (hS ▸ h),fun b o h=>he.cell b o (hS ▸ h),fun _ _ h=>⟨rfl,h⟩,fun _ _ v n h=>⟨v,n,h,j7 _,fun _=>rfl⟩⟩
 refine ⟨hx M,hk.keep (hx N) (j7 _) hl (fun i b hb=>hf.keep b (hk.occ_lt hb).2.1 fun j hj=>hd i j b hb hj) (fun i b hb o ho=>?_) (fun _ _=>rfl),fun i j b h1 h2=>?_⟩
 ·rcases hf.pub b o ho with h|h|⟨j,hj⟩
  ·rw [hS]; exact h
  ·exact absurd (hk.occ_lt hb).2.1 y5
  ·exact (hd i j b hb hj).elim
 ·have h1:occ k K i=some b:=h1;obtain ⟨j',hj'⟩:=hf.occ j b h2 (hk.occ_lt h1).2.1;exact hd i j' b h1 hj'
end

structure Both (P:Program) (B0:Nat) (w0:World) (S0:Nat→Nat→Prop) (h0:Nat) (g:Gh) (H:List Blk) (w:World) (D l:Nat) (r:Loop) (gc:Gh) (Hc:List Blk) (gi:Gh) (Hi:List Blk) (W:World):Prop where
 hc:Ql P gc B0 Hc.length Hc W
 hi:Ql P gi B0 Hi.length Hi W
 inv:Inv B0 w0 S0 gc W
 S:gc.S=gi.S
 ext:Ext h0 g w gc W
 fr:Fr g H w gc Hc W
 dis:∀ i j b,occ gc Hc i=some b→occ gi Hi j=some b→False
 new:∀ j b,occ gi Hi j=some b→w.heap.size≤b
 loop:W.heap[l]? = some (.loop r)
 dfr:W.heap[D]? = some (.deferred (some []))
 hB:B0≤w.heap.size
 hD:w.heap.size≤D
 hl:w.heap.size≤l
 ne:D≠l

section
variable {P:Program} {B0 h0 D l:Nat} {w0 w W W':World} {S0:Nat→Nat→Prop} {g gc gi gc' gi':Gh} {H Hc Hi Hc' Hi':List Blk} {r:Loop}

theorem Inv.ofS {g g':Gh} (h:Inv B0 w0 S0 g w) (e:g'.S=g.S):Inv B0 w0 S0 g' w:=⟨h.below,h.size,fun b o hs=>h.old b o (e ▸ hs),fun b o hs=>h.lt b o (e ▸ hs)⟩

theorem Both.inner (hb:Both P B0 w0 S0 h0 g H w D l r gc Hc gi Hi W) (he:Ext 0 gi W gi' W') (hf:Fr gi Hi W gi' Hi' W') (hi':Ql P gi' B0 Hi'.length Hi' W') (inv':Inv B0 w0 S0 gi' W') :
  Both P B0 w0 S0 h0 g H w D l r { gc with S:=gi'.S } Hc gi' Hi' W':=by
 obtain ⟨s1,s2,s3⟩:=side hb.hc (j7 _) hb.S he hf hb.dis h0;refine ⟨s2,hi',inv'.ofS rfl,rfl,hb.ext.trans s1 (j7 _),⟨jW hb.fr.size hf.size,fun b hlt hn=>?_,hb.fr.occ,fun b o hs=>?_⟩,s3,fun j b hj=>?_,?_,?_,hb.hB,hb.hD,hb.hl,hb.ne⟩
 ·exact (hf.keep b (jP hlt hb.fr.size) fun j hj=>by have:=hb.new j b hj; omega).trans (hb.fr.keep b hlt hn)
 ·rcases hf.pub b o hs with h|h|⟨j,hj⟩
  ·exact hb.fr.pub b o (by rw [hb.S]; exact h)
  ·exact .inr (.inl (jW hb.fr.size h))
  ·exact .inr (.inl (hb.new j b hj))
 ·by_cases hlt:b < W.heap.size
  ·obtain ⟨j',hj'⟩:=hf.occ j b hj hlt; exact hb.new j' b hj'
  ·have:=hb.fr.size; omega
 ·exact (hf.keep l (lt_of_heap hb.loop) (hb.hi.occ_not hb.loop rfl rfl)).trans hb.loop
 ·exact (hf.keep D (lt_of_heap hb.dfr) (hb.hi.occ_not hb.dfr rfl rfl)).trans hb.dfr

theorem Both.outer (hb:Both P B0 w0 S0 h0 g H w D l r gc Hc gi Hi W) (he:Ext h0 gc W gc' W') (hf:Fr gc Hc W gc' Hc' W') (hc':Ql P gc' B0 Hc'.length Hc' W') (inv':Inv B0 w0 S0 gc' W') (M:Nat) :
  Both P B0 w0 S0 h0 g H w D l r gc' Hc' { gi with S:=gc'.S } Hi W'∧Ext M gi W { gi with S:=gc'.S } W':=by
 obtain ⟨s1,s2,s3⟩:=side hb.hi (j7 _) hb.S.symm (he.less (zN _)) hf (fun i j b h1 h2=>hb.dis j i b h2 h1) M;refine ⟨⟨hc',s2,inv',rfl,hb.ext.trans he (j7 _),hb.fr.trans hf,fun i j b h1 h2=>s3 j i b h2 h1,hb.new,?_,?_,hb.hB,hb.hD,hb.hl,hb.ne⟩,s1⟩
 ·exact (hf.keep l (lt_of_heap hb.loop) (hb.hc.occ_not hb.loop rfl rfl)).trans hb.loop
 ·exact (hf.keep D (lt_of_heap hb.dfr) (hb.hc.occ_not hb.dfr rfl rfl)).trans hb.dfr

theorem Both.put (hb:Both P B0 w0 S0 h0 g H w D l r gc Hc gi Hi W) (r':Loop):Both P B0 w0 S0 h0 g H w D l r' gc Hc gi Hi (W.putObj l (.loop r')) :=
 ⟨hb.hc.put (j7 _) hb.loop rfl rfl,hb.hi.put (j7 _) hb.loop rfl rfl,hb.inv.put (jW hb.hB hb.hl),hb.S,hb.ext.trans (Ext.put h0 gc hb.loop rfl rfl) (j7 _),hb.fr.put hb.hl,hb.dis,hb.new,
  World.putObj_heap_same (lt_of_heap hb.loop),(World.putObj_heap_other hb.ne).trans hb.dfr,hb.hB,hb.hD,hb.hl,hb.ne⟩

theorem Both.putExt (hb:Both P B0 w0 S0 h0 g H w D l r gc Hc gi Hi W) (r':Loop) (N:Nat) (k:Gh):Ext N k W k (W.putObj l (.loop r')):=Ext.put N k hb.loop rfl rfl
end

section
variable {σ:Type} {P:Program} {B0:Nat} {w0:World} {S0:Nat→Nat→Prop} {Nb l:Nat} {m:Nat} {pf:FuncId→Bool} {call:CallF} {h:Hint} {Y:List Dat→σ→Option (Bool × σ)} {Out:σ→Gh→List Blk→World→Prop}

def StableOut (P:Program) (B0:Nat) (w0:World) (S0:Nat→Nat→Prop) (Out:σ→Gh→List Blk→World→Prop):Prop :=
 ∀ s g H w g' H' w',Out s g H w→Ext 0 g w g' w'→Fr g H w g' H' w'→Ql P g' B0 H'.length H' w'→Inv B0 w0 S0 g' w'→Out s g' H' w'

def YOK (P:Program) (B0:Nat) (w0:World) (S0:Nat→Nat→Prop) (l:Nat) (Y:List Dat→σ→Option (Bool × σ)) (Out:σ→Gh→List Blk→World→Prop):Prop :=
 ∀ (g:Gh) (H:List Blk) (w:World) (vals:Array Value) (ds:List Dat) (s s':σ) (b:Bool) (m:Nat),Y ds s=some (b,s')→Out s g H w→Ql P g B0 H.length H w→Inv B0 w0 S0 g w →
  vals.size=ds.length→(∀ (j:Nat) v d,vals[j]? = some v→ds[j]? = some d→RepD w g.S v d) →
  ∃ fn tmps assign body,(Instr.yield l vals).run P w=.ok (.round l fn tmps assign body) w ∧
   RoundIn Fence.wide m P l fn tmps assign body w fun e w'=>e=.returned (.bool b)∧∃ g',Ext H.length g w g' w'∧Ql P g' B0 H.length H w'∧Inv B0 w0 S0 g' w'∧Out s' g' H w'

structure IOK (P:Program) (B0:Nat) (w0:World) (S0:Nat→Nat→Prop) (l Nb:Nat) (Out:σ→Gh→List Blk→World→Prop) (g:Gh) (is:ISt σ) (a:Act) (w:World):Prop where
 st:StOK P B0 w0 S0 Nb g is.st a w
 ys:∀ t,t∈is.ys→a.tmps[t]? = some (.func (.yield l) #[] #[])
 out:Out is.out g is.st.heap w

theorem keptY_sub {k:Option (List Nat)} {ys:List Tmp} {t:Tmp} (h:t∈keptY k ys):t∈ys:=by
 cases k with
 | none=>exact h
 | some ks=>exact (List.mem_filter.mp h).1

theorem offY_ys {ys:List Tmp} {a:Act} {d:Option Tmp} {v:Value} (h:∀ t,t∈ys→a.tmps[t]? = some (.func (.yield l) #[] #[])):∀ t,t∈offY ys d→(a.put d v).tmps[t]? = some (.func (.yield l) #[] #[]):=fun t ht=>by
 cases d with
 | none=>exact h t ht
 | some d =>
  simp only [offY,List.mem_filter,bne_iff_ne,ne_eq] at ht;show (a.tmps.setIfInBounds d v)[t]? = _
  rw [Array.getElem?_setIfInBounds_ne (fun e=>ht.2 e.symm)];exact h t ht.1

def IOpOK (P:Program) (B0:Nat) (w0:World) (S0:Nat→Nat→Prop) (l:Nat) (Out:σ→Gh→List Blk→World→Prop) (ops:Array Oper) (o:Oper) (is is1:ISt σ):Prop :=
 ∀ (Nb:Nat) (g:Gh) (a:Act) (w:World) (m:Nat) (K:Act→World→Prop) (Q:Exit→Act→World→Prop),IOK P B0 w0 S0 l Nb Out g is a w →
  (∀ g' a' w',Ext Nb g w g' w'→IOK P B0 w0 S0 l Nb Out g' is1 a' w'→a'.defers=a.defers→K a' w') →
  (if Region.wanted o (yielded ops a.tmps) then o.wpIn Fence.wide m P a w K Q else (∀ f,o.about P w a.eval=some f→Fence.wide.fn f)∧K (a.put o.dst undef) w)

theorem iop_gen (hcall:CallOK P pf call) (hst:StableOut P B0 w0 S0 Out) {r i:Nat} {ops:Array Oper} {o:Oper} {is:ISt σ} {st1:St} (hs:opStep P call h r ops i o is.st=some st1) :
  IOpOK P B0 w0 S0 l Out ops o is ⟨st1,offY is.ys o.dst,is.out⟩:=by
 intro Nb g a w m K Q hI hK;have hF:Free Fence.wide:=.inl rfl;unfold opStep at hs;split at hs
 ·rename_i hw;rw [wanted_rep hI.st.rep hw,if_pos rfl];split at hs
  ·rename_i v H hsem;cases hs;refine sem_wp hF hcall hsem hI.st fun u g' w' hg=>?_
   exact hK g' _ w' (hg.ext.less hI.st.base) ⟨hI.st.put hg o.dst,offY_ys hI.ys,hst _ _ _ _ _ _ _ hI.out (hg.ext.less (zN _)) hg.fr hg.heap hg.inv⟩ (put_defers _ _ _)
  ·cases hs
 ·rename_i hw;rw [wanted_rep hI.st.rep hw];simp only [j6,if_false];cases hs;exact ⟨fun f _=>hF.fn f,hK g _ w (Ext.refl _ _ _) ⟨⟨hI.st.heap,hI.st.inv,hI.st.rep.put o.dst undef_rep,hI.st.base⟩,offY_ys hI.ys,hI.out⟩ (put_defers _ _ _)⟩
 ·cases hs

theorem wanted_none {o:Oper} (h:o.guard=none) (y:Nat→Option Bool):Region.wanted o y=true:=by simp [Region.wanted,h]

theorem iop_ok (hcall:CallOK P pf call) (hst:StableOut P B0 w0 S0 Out) (hY:YOK P B0 w0 S0 l Y Out) {r i:Nat} {ops:Array Oper} {o:Oper} {is is1:ISt σ} (hs:iopStep P call h Y r ops i o is=some is1) :
  IOpOK P B0 w0 S0 l Out ops o is is1:=by
 unfold iopStep at hs
 have gen:∀ {is1},((opStep P call h r ops i o is.st).map fun st=>(⟨st,offY is.ys o.dst,is.out⟩:ISt σ))=some is1→IOpOK P B0 w0 S0 l Out ops o is is1:=fun hs=>by
  simp only [j5] at hs;obtain ⟨st1,hs,rfl⟩:=hs;exact iop_gen hcall hst hs
 split at hs
 ·rename_i t ho hg;split at hs
  ·rename_i hmem;split at hs
   ·rename_i d hd;split at hs
    ·rename_i hlt;cases hs;intro Nb g a w m K Q hI hK;rw [wanted_none hg,if_pos rfl];have hF:Free Fence.wide:=.inl rfl;refine ⟨fun f _=>hF.fn f,?_⟩;rw [Oper.semAt_eq _ _ _ (by simp [ho])];have hrun:(execOp a.eval o).run P w=.ok (.value (a.eval (.tmp t))) w:=by simp [execOp,ho]
     rw [hrun];have ht:a.tmps[t]? = some (.func (.yield l) #[] #[]):=hI.ys t (by simpa using hmem);have hv:a.eval (.tmp t)=.func (.yield l) #[] #[]:=by show a.tmps.getD t undef=_; simp [jH,ht]
     refine hK g _ w (Ext.refl _ _ _) ⟨⟨hI.st.heap,hI.st.inv,?_,hI.st.base⟩,fun t' ht'=>?_,hI.out⟩ (put_defers _ _ _)
     ·have:=hI.st.rep.put (a:=a) o.dst (v:=a.eval (.tmp t)) (p:=.undef) (.undef _);rw [hd] at this ⊢;exact this
     ·rw [hd];show (a.tmps.setIfInBounds d _)[t']? = _
      by_cases e:t'=d
      ·subst e;rw [Array.getElem?_setIfInBounds_self_of_lt (by rw [hI.st.rep.1]; exact hlt),hv]
      ·rw [Array.getElem?_setIfInBounds_ne (fun e'=>e e'.symm)];rcases List.mem_cons.1 ht' with h|h
       ·exact absurd h e
       ·exact hI.ys t' h
    ·cases hs
   ·cases hs
  ·exact gen hs
 ·rename_i t args ts ho hg;split at hs
  ·rename_i hmem;split at hs
   ·rename_i ds hps;split at hs
    ·cases hs
    ·rename_i hnl;split at hs
     ·rename_i b out hy;cases hs;intro Nb g a w m K Q hI hK;rw [wanted_none hg,if_pos rfl];have hF:Free Fence.wide:=.inl rfl;refine ⟨fun f _=>hF.fn f,?_⟩;rw [Oper.semAt_eq _ _ _ (by simp [ho])];have ht:a.tmps[t]? = some (.func (.yield l) #[] #[]):=hI.ys t (by simpa using hmem);have hv:a.eval (.tmp t)=.func (.yield l) #[] #[]:=by show a.tmps.getD t undef=_; simp [jH,ht]
      obtain ⟨p1,p2⟩:=pures_some _ _ hps
      obtain ⟨fn,tmps,assign,body,hrun,hround⟩:=hY g is.st.heap w (args.map a.eval) ds is.out out b (m - 1) hy hI.out hI.st.heap hI.st.inv (by simp at p1 ⊢; omega) (fun j v d g1 g2=>by
       simp only [zI,j5] at g1;obtain ⟨x,hx,rfl⟩:=g1;have hq:(args.toList.map (ev is.st.slots))[j]? = some (ev is.st.slots x):=by simp [hx]
       refine pure1_rep (hI.st.rep.ev x) (p2 j _ d hq g2) ?_;have:=List.any_eq_false.1 (by simpa using hnl) _ (jF hq)
       simpa using this)
      have hex:(execOp a.eval o).run P w=.ok (.round l fn tmps assign body) w:=by
       simp [execOp,ho,resolve,hv,Deferred.ofValue,invoke,hrun]
      rw [hex,Oper.uponIn_round];refine ⟨fun hd=>by simp [Fence.wide] at hd,hround.mono fun e w' he=>?_⟩;obtain ⟨rfl,g',e1,e2,e3,e4⟩:=he;exact hK g' _ w' (e1.less hI.st.base) ⟨⟨e2,e3,(hI.st.rep.ext e1 (j7 _)).put o.dst (.dat _ _ (.raw _ rfl)),hI.st.base⟩,offY_ys hI.ys,e4⟩ (put_defers _ _ _)
     ·cases hs
   ·cases hs
  ·exact gen hs
 ·exact gen hs

theorem iops_sound (hcall:CallOK P pf call) (hst:StableOut P B0 w0 S0 Out) (hY:YOK P B0 w0 S0 l Y Out) {r:Nat} {ops:Array Oper} {Q:Exit→Act→World→Prop}:∀ (os:List Oper) (i:Nat) (is is':ISt σ) (g:Gh) (a:Act) (w:World),
  iopsFrom P call h Y r ops i os is=some is'→(∀ j,os[j]? = ops[i+j]?)→IOK P B0 w0 S0 l Nb Out g is a w →
  (∀ g' a' w',Ext Nb g w g' w'→IOK P B0 w0 S0 l Nb Out g' is' a' w'→a'.defers=a.defers→Q .normal a' w')→wpOpsIn Fence.wide m P ops Q (List.range' i os.length) a w
 | [],i,is,is',g,a,w,hs,_,hI,hQ=>by
  cases hs;exact hQ g a w (Ext.refl _ _ _) hI rfl
 | o::os,i,is,is',g,a,w,hs,hl,hI,hQ=>by
  have h0:ops[i]? = some o:=by simpa using (hl 0).symm
  have hl':∀ j,os[j]? = ops[i+1+j]?:=fun j=>by have:=hl (j+1); rw [show i+1+j=i+(j+1) by omega]; simpa using this
  simp only [zE,List.range'_succ,wpOpsIn,h0];unfold iopsFrom at hs;split at hs
  ·rename_i is1 h1;refine iop_ok hcall hst hY h1 Nb g a w m _ Q hI fun g1 a1 w1 e1 I1 d1=>?_
   exact iops_sound hcall hst hY os (i+1) is1 is' g1 a1 w1 hs hl' I1 fun g2 a2 w2 e2 I2 d2=>hQ g2 a2 w2 (e1.trans e2 (j7 _)) I2 (d2.trans d1)
  ·cases hs

def ICodeOK (P:Program) (B0:Nat) (w0:World) (S0:Nat→Nat→Prop) (l:Nat) (Out:σ→Gh→List Blk→World→Prop) (c:Code) (is:ISt σ) (e:Ex) (is':ISt σ):Prop :=
 ∀ (Nb:Nat) (g:Gh) (a:Act) (w:World) (m:Nat) (Q:Exit→Act→World→Prop),IOK P B0 w0 S0 l Nb Out g is a w →
  (∀ g' a' w',Ext Nb g w g' w'→IOK P B0 w0 S0 l Nb Out g' is' a' w'→a'.defers=a.defers→Q (exOf e) a' w')→c.wpIn Fence.wide m P Q a w

theorem icode_sound (hcall:CallOK P pf call) (hst:StableOut P B0 w0 S0 Out) (hY:YOK P B0 w0 S0 l Y Out):∀ (n:Nat),
  (∀ (c:Code) (is is':ISt σ) (e:Ex),icode P call h Y n c is=some (e,is')→ICodeOK P B0 w0 S0 l Out c is e is') ∧
  (∀ (b:Code) (h0:Nat) (is is':ISt σ) (e:Ex),icode.iloop P call h Y b h0 n is=some (e,is')→h0≤is.st.heap.length →
   ∀ (g:Gh) (a:Act) (w:World) (m:Nat) (Q:Exit→Act→World→Prop),IOK P B0 w0 S0 l h0 Out g is a w →
    (∀ g' a' w',Ext h0 g w g' w'→IOK P B0 w0 S0 l h0 Out g' is' a' w'→a'.defers=a.defers→Q (exOf e) a' w')→Code.roundsIn Fence.wide m P b Q n a w):=by
 intro n;induction n with
 | zero=>exact ⟨fun c is is' e hs=>by simp [icode] at hs,fun b h0 is is' e hs=>by simp [icode.iloop] at hs⟩
 | succ n ih =>
  obtain ⟨ihc,ihl⟩:=ih;refine ⟨fun c is is' e hs=>?_,fun b h0 is is' e hs hle=>?_⟩
  ·intro Nb g a w m Q hI hQ;cases c with
   | skip=>simp only [icode,j9,jI] at hs; obtain ⟨rfl,rfl⟩:=hs; exact wpIn_skip (hQ g a w (Ext.refl _ _ _) hI rfl)
   | region r ops draw =>
    cases draw
    ·simp only [icode] at hs;simp only [j5] at hs;obtain ⟨is1,hs,h1⟩:=hs;simp only [jI] at h1;obtain ⟨rfl,rfl⟩:=h1;refine wpIn_region ?_;have:=iops_sound (Q:=Q) (m:=m) hcall hst hY ops.toList 0 is is1 g a w hs (fun j=>by simp) hI hQ
     rwa [Array.length_toList,← List.range_eq_range'] at this
    ·simp [icode] at hs
   | seq x y =>
    simp only [icode] at hs;refine wpIn_seq ?_;split at hs
    ·rename_i is1 h1;refine ihc x is is1 .normal h1 Nb g a w m _ hI fun g1 a1 w1 e1 I1 d1=>?_
     exact ihc y is1 is' e hs Nb g1 a1 w1 m Q I1 fun g2 a2 w2 e2 I2 d2=>hQ g2 a2 w2 (e1.trans e2 (j7 _)) I2 (d2.trans d1)
    ·rename_i hne;refine ihc x is is' e hs Nb g a w m _ hI fun g1 a1 w1 e1 I1 d1=>?_
     have:=hQ g1 a1 w1 e1 I1 d1;cases e with
     | normal=>exact absurd hs (hne is')
     | exit id=>exact this
     | ret=>exact this
   | cond x y z =>
    simp only [icode] at hs;split at hs
    ·rename_i hb;exact wpIn_cond_true (boolOf_rep (hI.st.rep.ev x) hb) (ihc y is is' e hs Nb g a w m Q hI hQ)
    ·rename_i hb;exact wpIn_cond_false (boolOf_rep (hI.st.rep.ev x) hb) (ihc z is is' e hs Nb g a w m Q hI hQ)
    ·cases hs
   | block id b =>
    simp only [icode] at hs;refine wpIn_block ?_;split at hs
    ·rename_i id' is1 h1;refine ihc b is is1 _ h1 Nb g a w m _ hI fun g1 a1 w1 e1 I1 d1=>?_
     split at hs
     ·rename_i hid;simp only [j9,jI] at hs;obtain ⟨rfl,rfl⟩:=hs;have:=hQ g1 a1 w1 e1 I1 d1
      simpa [exOf,Exit.inBlock,hid] using this
     ·rename_i hid;simp only [j9,jI] at hs;obtain ⟨rfl,rfl⟩:=hs;have:=hQ g1 a1 w1 e1 I1 d1
      simpa [exOf,Exit.inBlock,hid] using this
    ·rename_i hne;refine ihc b is is' e hs Nb g a w m _ hI fun g1 a1 w1 e1 I1 d1=>?_
     have:=hQ g1 a1 w1 e1 I1 d1;cases e with
     | normal=>exact this
     | exit id=>exact absurd hs (hne id is')
     | ret=>exact this
   | loop b =>
    simp only [icode] at hs;refine wpIn_loop_rounds n ?_;refine ihl b is.st.heap.length is is' e hs (j7 _) g a w m Q ⟨⟨hI.st.heap,hI.st.inv,hI.st.rep,j7 _⟩,hI.ys,hI.out⟩ fun g1 a1 w1 e1 I1 d1=>?_
    exact hQ g1 a1 w1 (e1.less hI.st.base) ⟨⟨I1.st.heap,I1.st.inv,I1.st.rep,jW hI.st.base I1.st.base⟩,I1.ys,I1.out⟩ d1
   | exit id=>simp only [icode,j9,jI] at hs; obtain ⟨rfl,rfl⟩:=hs; exact wpIn_exit (hQ g a w (Ext.refl _ _ _) hI rfl)
   | ret=>simp only [icode,j9,jI] at hs; obtain ⟨rfl,rfl⟩:=hs; exact wpIn_ret (hQ g a w (Ext.refl _ _ _) hI rfl)
   | _=>simp [icode] at hs
  ·intro g a w m Q hI hQ;rw [roundsIn_succ];simp only [icode.iloop] at hs;obtain ⟨g0,e0,f0,hst0⟩:=prune_ok ((QO b).bind h.keepAt) hI.st;have I0:IOK P B0 w0 S0 l h0 Out g0 ⟨prune h0 ((QO b).bind h.keepAt) is.st,keptY ((QO b).bind h.keepAt) is.ys,is.out⟩ a w:=⟨hst0,fun t ht=>hI.ys t (keptY_sub ht),hst _ _ _ _ _ _ _ hI.out (e0.less (zN _)) f0 hst0.heap hst0.inv⟩;split at hs
   ·rename_i is1 h1;refine ihc b _ is1 .normal h1 h0 g0 a w m _ I0 fun g1 a1 w1 e1 I1 d1=>?_
    exact ihl b h0 is1 is' e hs I1.st.base g1 a1 w1 m Q I1 fun g2 a2 w2 e2 I2 d2=>hQ g2 a2 w2 ((e0.trans e1 (j7 _)).trans e2 (j7 _)) I2 (d2.trans d1)
   ·rename_i hne;refine ihc b _ is' e hs h0 g0 a w m _ I0 fun g1 a1 w1 e1 I1 d1=>?_
    have:=hQ g1 a1 w1 (e0.trans e1 (j7 _)) I1 d1;cases e with
    | normal=>exact absurd hs (hne is')
    | exit id=>exact this
    | ret=>exact this
end
end Go.Pm
