/-
 The pure machine: soundness of regions in the text's order, of control, of loops.
-/
import Derived.Test.YtjcfpjpdopfefaaGreatPmTurn
import Derived.LoopNIn
import Derived.TacticsIn
namespace Go.Pm
open Go Go.RowKit
set_option linter.unusedVariables false

def Free (F:Fence):Prop:=F=Fence.wide∨∃ l,F=Fence.wide.inRound l

theorem Free.fn {F:Fence} (h:Free F) (f:FuncId):F.fn f:=by rcases h with rfl|⟨l,rfl⟩ <;> exact trivial
theorem Free.depth {F:Fence} (h:Free F):F.depth=none:=by rcases h with rfl|⟨l,rfl⟩ <;> rfl
theorem Free.calls {F:Fence} (h:Free F) {n:Nat} {P:Program} {f:FuncId} {args:Array Value} {w:World} {R:Ending→World→Prop} (hc:Calls P f args w R):CallsIn F n P f args w R:=by
 rcases h with rfl|⟨l,rfl⟩
 ·exact callsIn_wide.2 hc
 ·exact (callsIn_wide (n:=n)).2 hc

structure StOK (P:Program) (B0:Nat) (w0:World) (S0:Nat→Nat→Prop) (Nb:Nat) (g:Gh) (st:St) (a:Act) (w:World):Prop where
 heap:Ql P g B0 st.heap.length st.heap w
 inv:Inv B0 w0 S0 g w
 rep:RepS g st.heap.length w a.tmps st.slots
 base:Nb≤st.heap.length

def gS (S:Nat→Nat→Prop):Gh:={ blk:=fun _=>0,live:=fun _=>False,own:=fun _=>none,S }

theorem heap_nil {P:Program} {B0:Nat} {S0:Nat→Nat→Prop} {w0:World}:Ql P (gS S0) B0 0 [] w0:=⟨fun i cs h=>by simp at h,fun i e n h=>by simp at h,fun i e n cs h=>by simp at h,fun i es h=>by simp at h,fun i e cs h=>by simp at h,fun i x h=>by simp at h,fun i j b h=>by simp [occ] at h⟩

theorem allDat_mem:∀ (cs:List PV),(allDat cs).isSome=true→∀ c∈cs,∃ d,c=.dat d
 | [],_,c,hc=>by cases hc
 | .dat d::r,h,c,hc=>by
  simp only [allDat,Option.isSome_map] at h;rcases List.mem_cons.1 hc with rfl|hc
  ·exact ⟨d,rfl⟩
  ·exact allDat_mem r h c hc
 | .agg _::_,h,_,_=>by cases h
 | .tup _::_,h,_,_=>by cases h
 | .vec ..::_,h,_,_=>by cases h
 | .ptr ..::_,h,_,_=>by cases h
 | .iptr ..::_,h,_,_=>by cases h
 | .arr ..::_,h,_,_=>by cases h
 | .fn ..::_,h,_,_=>by cases h
 | .ms ..::_,h,_,_=>by cases h
 | .mp ..::_,h,_,_=>by cases h
 | .mapv ..::_,h,_,_=>by cases h
 | .empv ..::_,h,_,_=>by cases h
 | .undef::_,h,_,_=>by cases h

section
variable {P:Program} {B0:Nat} {w0:World} {S0:Nat→Nat→Prop} {Nb:Nat} {F:Fence} {m:Nat} {pf:FuncId→Bool} {call:CallF} {h:Hint}

theorem freshMap_ok (hcall:CallOK P pf call) {f:FuncId} {H:List Blk} {es:List (Value × PV)} {g:Gh} {w:World} {vals:Array Value} (hc:call f (([]:List Dat).map .dat) []=some (.mapv 0,[.map es])) (hpl:es.all (fun e=>e.2.plainCell)=true)
  (hn:vals.size=0) (hH:Ql P g B0 H.length H w) (hi:Inv B0 w0 S0 g w) (hG:GlobRep g w) :
  (∃ fn c, P.funcs[f]? = some fn ∧ fn.body = some c ∧ (fn.name == "runtime.NumGoroutine") = false) ∧ Calls P f vals w fun e w' => ∃ v g', e = .returned v ∧ Good P B0 w0 S0 H g w (.mapv H.length) (H ++ [.map es]) v g' w' := by
 obtain ⟨k1,_,k3⟩:=hcall _ _ _ _ _ hc;refine ⟨k1,(k3 w.heap.size w g.S (gS g.S) w vals (by simpa using hn) (fun j v q g1 g2=>by simp at g2) heap_nil ⟨Below.refl _ _,j7 _,fun b o h=>.inl h,hi.lt⟩ (hG.ofS fun _ _ h=>h)).mono fun e' w1 he=>?_⟩;obtain ⟨v,g1,rfl,hg⟩:=he;have hb:=hg.inv.below;obtain ⟨m1,⟨arr,clock,m2,m3,m4⟩,m5⟩:=hg.heap.map 0 es rfl
 let G:Gh:={ blk:=fun j=>if j=H.length then g1.blk 0 else g.blk j,live:=fun j=>j=H.length∨g.live j,own:=g.own,S:=g.S }
 have hblk:G.blk H.length=g1.blk 0:=by simp [G]
 have hext:Ext H.length g w G w1:=⟨fun _ _ h=>h,fun b o hs=>hb.cell (p:=⟨b,o,none⟩) (hi.lt b o hs),fun i hlt h=>⟨by simp only [G]; rw [if_neg y5],.inr h⟩,fun t ht v n h=>⟨v,n,h,j7 _,fun _=>rfl⟩⟩
 have hv:v=.map (some (g1.blk 0)):=by
  have:=hg.rep;cases this; rfl
 have hocc:∀ i b,occ G H i=some b→occ g H i=some b:=fun i b h=>occ_ghost (g:=g) h (fun j hj=>by simp only [G]; rw [if_neg y5]) (fun j hj=>rfl)
 have hkeep:Ql P G B0 (H.length+1) H w1:=hH.keep hext (Nat.le_succ _) (j7 _) (fun i b h=>hb.block b (hH.occ_lt h).2.1) (fun i b h o hs=>hs) (fun t ht=>rfl);refine ⟨v,G,rfl,hext,by simp,?_,?_,⟨hi.below.trans (hb.mono hi.size),jW hi.size hb.size,hi.old,fun b o hs=>jP (hi.lt b o hs) hb.size⟩,Fr.old hb.size (fun b h=>hb.block b h) (fun i b h hlt=>?_) (fun b o h=>.inl h)⟩
 ·have:=RepV.mapv (g:=G) (N:=(H++[Blk.map es]).length) (w:=w1) H.length ⟨by simp,.inl rfl⟩;rw [hblk] at this;rw [hv]; exact this
 ·rw [jV];refine hkeep.snoc _ (fun _ h=>by cases h) (fun _ _ h=>by cases h) (fun i b h h2=>?_) (hmap:=fun es2 h=>?_)
  ·rw [occ_map (es:=es) y7,hblk] at h2;cases h2;have h3:=(hH.occ_lt (hocc i _ h)).2.1;omega
  ·cases h;rw [hblk];refine ⟨jW hi.size m1,⟨arr,clock,m2,m3,fun j m c a1 a2=>⟨(m4 j m c a1 a2).1,?_⟩⟩,fun o hs=>?_⟩
   ·have hp:=List.all_eq_true.1 hpl c (jF a2);have hr:=(m4 j m c a1 a2).2;generalize c.2=q at hp hr;cases q <;> first|(simp [PV.plainCell] at hp; done)|skip
    exact .dat _ _ (scalar_any hr.datInv (by simpa [PV.plainCell] using hp))
   ·have:=hi.lt _ o hs; omega
 ·rcases occ_snoc_map h with h|⟨_,rfl⟩
  ·exact ⟨i,hocc i b h⟩
  ·rw [hblk] at hlt; omega
theorem fresh_ok (hcall:CallOK P pf call) {f:FuncId} {args:List PV} {H H':List Blk} {g:Gh} {w:World} {p:PV} {vals:Array Value} (hf:freshCall call f args H=some (p,H'))
  (hn:vals.size=args.length) (hr:∀ (j:Nat) v q,vals[j]? = some v→args[j]? = some q→RepV g H.length w v q) (hH:Ql P g B0 H.length H w) (hi:Inv B0 w0 S0 g w) (hG:GlobRep g w) :
  (∃ fn c, P.funcs[f]? = some fn ∧ fn.body = some c ∧ (fn.name == "runtime.NumGoroutine") = false) ∧ Calls P f vals w fun e w' => ∃ v g', e = .returned v ∧ Good P B0 w0 S0 H g w p H' v g' w' := by
 unfold freshCall at hf;split at hf
 case h_2=>cases hf
 rename_i ds hds;split at hf
 case h_3=>cases hf
 case h_2 =>
  rename_i es hc;split at hf
  case isFalse=>cases hf
  rename_i hcond;simp only [j9,jI] at hf;obtain ⟨rfl,rfl⟩:=hf;have hnil:args=[]:=List.isEmpty_iff.1 hcond.1;subst hnil;have hds0:ds=[]:=by simpa [pures] using hds.symm
  subst hds0;exact freshMap_ok hcall hc hcond.2 hn hH hi hG
 rename_i t gg len cp H1 hc;split at hf
 case h_2=>cases hf
 rename_i e g' cs hm;split at hf
 case isFalse=>cases hf
 rename_i hcond;obtain ⟨rfl,hlen,hdat,hscal⟩:=hcond;cases hf;obtain ⟨p1,p2⟩:=pures_some _ _ hds;obtain ⟨k1,_,k3⟩:=hcall _ _ _ _ _ hc
 have hargs:∀ (j:Nat) v d,vals[j]? = some v→ds[j]? = some d→∃ q,args[j]? = some q∧RepV g H.length w v q∧pure1 H q=some d:=fun j v d g1 g2=>by
  have hlt:j < args.length:=by rw [← p1]; exact (List.getElem?_eq_some_iff.1 g2).1
  have hq:args[j]? = some args[j]:=jC hlt;exact ⟨_,hq,hr j v _ g1 hq,p2 j _ d hq g2⟩
 obtain ⟨S',hSlt,hSarg,hSno,hSup⟩:∃ S':Nat→Nat→Prop,(∀ b o,S' b o→b < w.heap.size)∧(∀ (j:Nat) v d,vals[j]? = some v→ds[j]? = some d→RepD w S' v d)∧(args.any PV.lends=false→∀ b o,S' b o→g.S b o)∧(∀ b o,g.S b o→S' b o):=by
  by_cases hl:args.any PV.lends=true
  ·refine ⟨(g.drop H 0).S,fun b o hs=>?_,fun j v d g1 g2=>?_,fun h=>(by rw [hl] at h; cases h),fun _ _ h=>.inl h⟩
   ·rcases hs with hs|⟨j,hj,hjb,_⟩
    ·exact hi.lt b o hs
    ·exact (hH.occ_lt hjb).2.1
   ·obtain ⟨q,h1,h2,h3⟩:=hargs j v d g1 g2;exact pure1_lend hH h2 h3
  ·refine ⟨g.S,hi.lt,fun j v d g1 g2=>?_,fun _ _ _ h=>h,fun _ _ h=>h⟩;obtain ⟨q,h1,h2,h3⟩:=hargs j v d g1 g2;refine pure1_rep h2 h3 ?_;have:=List.any_eq_false.1 (by simpa using hl) q (jF h1)
   simpa using this
 refine ⟨k1,(k3 w.heap.size w S' (gS S') w vals y6 (fun j v q g1 g2=>?_) heap_nil ⟨Below.refl _ _,j7 _,fun b o h=>.inl h,hSlt⟩ (hG.ofS hSup)).mono fun e' w1 he=>?_⟩
 ·simp only [jD,j5] at g2;obtain ⟨d,hd,rfl⟩:=g2;exact .dat _ _ (hSarg j v d g1 hd)
 obtain ⟨v,g1,rfl,hg⟩:=he
 let G:Gh:={ blk:=g.blk,live:=g.live,own:=fun j=>if j=H.length then some (v,1) else g.own j,S:=fun b o=>g.S b o∨(g1.S b o∧w.heap.size≤b) }
 have hb:=hg.inv.below;have hold1:∀ b o,g1.S b o→S' b o∨w.heap.size≤b:=hg.inv.old;have hold:∀ b o,G.S b o→g.S b o∨w.heap.size≤b:=fun b o h=>h.imp id fun h=>h.2
 have hext:Ext H.length g w G w1:=⟨fun _ _ h=>.inl h,fun b o hs=>hb.cell (p:=⟨b,o,none⟩) (hi.lt b o hs),fun _ _ h=>⟨rfl,h⟩,fun t ht v n h=>⟨v,n,by simp only [G]; rw [if_neg y5]; exact h,j7 _,fun _=>rfl⟩⟩;have hown:G.own H.length=some (v,1):=by simp [G]
 obtain ⟨v1,o1,o2⟩:=hg.heap.mt t e g' cs (by have:=QH hm; simpa using this)
 have key:base0 v∧v=subOf v 0 len∧(∃ a c,v=.slice a len c∧len≤c∧(0 < c→a.isSome=true))∧(∀ b,mtBlock v=some b→w.heap.size≤b)∧MtOK P G (H.length+1) B0 w1 e (cs.take len) v:=by
  have hrep:=hg.rep;cases hrep with
  | ms _ _ _ _ _ _ v0 n r1 r2 r3 r4 r5 =>
   rw [r2] at o1;simp only [j9,jI] at o1;obtain ⟨rfl,rfl⟩:=o1;obtain ⟨hv,_⟩:=r4 rfl
   have hup:∀ (u:Dat) (x:Value),RepD w1 g1.S x u→args.any PV.lends=false→RepD w1 G.S x u:=fun u x hu hl=>hu.mono (fun b o h=>by
    rcases hold1 b o h with h2|h2
    ·exact .inl (hSno hl b o h2)
    ·exact .inr ⟨h,h2⟩) fun _ _ _=>rfl
   rcases o2 with ⟨rfl,hv0⟩|⟨b,l,cap,cur,rfl,q0,q1,q2,q3,q4,q5,q6,q7,q8⟩|⟨b,l,cap,cur,size,da,rfl,q0,q1,q2,q3,q3',rfl,q4,q4',q5,q6,q7,q8⟩
   ·obtain rfl:len=0:=by simpa using hlen
    rcases hv0 with rfl|⟨a,rfl⟩
    ·subst hv;exact ⟨.inl rfl,rfl,⟨none,0,rfl,j7 _,fun h=>absurd h (jZ _)⟩,fun b h=>by simp [mtBlock,subOf] at h,.inl ⟨rfl,.inl rfl⟩⟩
    ·subst hv;refine ⟨.inr (.inl ⟨_,rfl⟩),by simp [subOf,Addr.add],⟨_,0,rfl,j7 _,fun _=>rfl⟩,fun b h=>by simp [mtBlock,subOf] at h,.inl ⟨rfl,.inr ⟨_,rfl⟩⟩⟩
   ·have hv':v=.slice (some ⟨b,0,none⟩) len cap:=by rw [hv]; simp [subOf,Addr.add]
    subst hv'
    have hlc:len≤cap:=by
     obtain ⟨a9,c9,e9,_,e10,_⟩:=r5;cases e9; exact e10
    refine ⟨.inr (.inr ⟨b,len,cap,rfl⟩),by simp [subOf,Addr.add],⟨_,cap,rfl,hlc,fun _=>rfl⟩,fun b' h=>?_,.inr (.inl ⟨b,len,cap,cur,rfl,q0,jW hi.size q1,q2,q3,⟨by have:=q4.1; simp; omega,flat_take q4.2 len⟩,q5,q6,fun o hs=>hs.elim (fun hs=>by have:=hi.lt b o hs; omega) (fun hs=>q7 o hs.1),fun j u c a1 a2=>?_⟩)⟩
    ·simp [mtBlock] at h; omega
    ·rw [jR] at a2;split at a2
     ·obtain ⟨d,rfl⟩:=allDat_mem _ hdat c (jF (i:=j) (by rw [jR,if_pos (by assumption)]; exact a2));have hu:=(q8 j u _ a1 a2).datInv;by_cases hl:args.any PV.lends=true
      ·rw [hl] at hscal;exact .dat _ _ (scalar_any hu (List.all_eq_true.1 (by simpa using hscal) (PV.dat d) (jF (i:=j) (by rw [jR,if_pos (by assumption)]; exact a2))))
      ·refine .dat _ _ (hu.mono (fun b o h=>?_) fun _ _ _=>rfl);rcases hold1 b o h with h2|h2
       ·exact .inl (hSno (by simpa using hl) b o h2)
       ·exact .inr ⟨h,h2⟩
     ·cases a2
   ·have hv':v=.slice (some ⟨b,0,none⟩) len cap:=by rw [hv]; simp [subOf,Addr.add]
    subst hv';have hlen':len≤da.length:=by simpa using hlen
    refine ⟨.inr (.inr ⟨b,len,cap,rfl⟩),by simp [subOf,Addr.add],⟨_,cap,rfl,by omega,fun _=>rfl⟩,fun b' h=>?_,.inr (.inr ⟨b,len,cap,cur,size,da.take len,rfl,q0,jW hi.size q1,q2,q3,q3',by rw [List.map_take],fits_take q4 len,by rw [zT]; omega,q5,q6,fun o hs=>hs.elim (fun hs=>by have:=hi.lt b o hs; omega) (fun hs=>q7 o hs.1),fun i j d u x a1 a2 a3=>?_⟩)⟩
    ·simp [mtBlock] at h; omega
    ·have hmem:=jF a1;rw [jR] at a1;split at a1
     ·have hu:=q8 i j d u x a1 a2 a3;by_cases hl:args.any PV.lends=true
      ·rw [hl] at hscal;have hs:d.scalar=true:=List.all_eq_true.1 (by simpa using hscal) (PV.dat d) (by rw [← List.map_take]; exact List.mem_map.2 ⟨d,hmem,rfl⟩);refine scalar_any hu ?_;have hnum:=fits_num (List.all_eq_true.1 q4 d (jF a1));rw [agg_of_num hnum q3'] at hs;have:=List.all_eq_true.1 hs u (jF a2);cases u <;> simp_all [Dat.scalar]
      ·exact hup u x hu (by simpa using hl)
     ·cases a1
 obtain ⟨c1,c2,⟨a0,c0,c3,c4,c5⟩,c6,c7⟩:=key
 have hkeep:Ql P G B0 (H.length+1) H w1:=hH.keep hext (Nat.le_succ _) (j7 _) (fun i b h=>hb.block b (hH.occ_lt h).2.1) (fun i b h o hs=>by
  rcases hold b o hs with hs|hs
  ·exact hs
  ·exact absurd (hH.occ_lt h).2.1 y5) (fun t ht=>by simp only [G]; rw [if_neg y5])
 have hocc:∀ i b,occ G H i=some b→occ g H i=some b:=fun i b h=>occ_ghost (g:=g) h (fun _ _=>rfl) (fun j hj=>by simp only [G]; rw [if_neg y5])
 refine ⟨v,G,rfl,hext,by simp,?_,?_,?_,?_⟩
 ·exact .ms _ _ _ _ _ _ v 1 y7 hown (j7 _) (fun _=>⟨c2,c1⟩) ⟨a0,c0,c3,c4,c4,c5⟩
 ·rw [jV];refine hkeep.snoc _ (fun _ h=>by cases h) (fun _ _ h=>by cases h) (fun i b h h2=>?_) (fun e2 n2 cs2 h=>?_)
  ·rw [occ_mt (e:=e) (n:=1) (cs:=cs.take len) y7,hown] at h2;have h3:=(hH.occ_lt (hocc i b h)).2.1;have h4:=c6 b h2;omega
  ·cases h; exact ⟨v,hown,c7⟩
 ·refine ⟨hi.below.trans (hb.mono hi.size),jW hi.size hb.size,fun b o hs=>?_,fun b o hs=>?_⟩
  ·rcases hold b o hs with hs|hs
   ·exact hi.old b o hs
   ·exact .inr (jW hi.size hs)
  ·rcases hs with hs|hs
   ·exact jP (hi.lt b o hs) hb.size
   ·exact hg.inv.lt b o hs.1
 ·refine Fr.old hb.size (fun b h=>hb.block b h) (fun i b h hlt=>?_) (fun b o h=>(hold b o h).imp id fun h=>.inl h);rcases occ_snoc_mt h with h|⟨_,h⟩
  ·exact ⟨i,hocc i b h⟩
  ·rw [hown] at h;have:=c6 b h;omega

theorem alone_ok (hcall:CallOK P pf call) {f:FuncId} {args:List PV} {H H1:List Blk} {g:Gh} {w:World} {p:PV} {ds:List Dat} {d:Dat} {vals:Array Value} (hl:¬ args.any PV.lends=true) (hps:pures H args=some ds) (hc:call f (ds.map .dat) []=some (p,H1)) (hd:pure1 H1 p=some d)
  (hn:vals.size=args.length) (hr:∀ (j:Nat) v q,vals[j]? = some v→args[j]? = some q→RepV g H.length w v q) (hH:Ql P g B0 H.length H w) (hi:Inv B0 w0 S0 g w) (hG:GlobRep g w) :
  (∃ fn c, P.funcs[f]? = some fn ∧ fn.body = some c ∧ (fn.name == "runtime.NumGoroutine") = false) ∧ Calls P f vals w fun e w' => ∃ v g', e = .returned v ∧ Good P B0 w0 S0 H g w (.dat d) H v g' w' := by
 obtain ⟨p1,p2⟩:=pures_some _ _ hps;obtain ⟨k1,_,k3⟩:=hcall _ _ _ _ _ hc;refine ⟨k1,(k3 w.heap.size w g.S (gS g.S) w vals y6 (fun j v q g1 g2=>?_) heap_nil ⟨Below.refl _ _,j7 _,fun b o h=>.inl h,hi.lt⟩ (hG.ofS fun _ _ h=>h)).mono fun e w' he=>?_⟩
 ·simp only [jD,j5] at g2;obtain ⟨d,hd,rfl⟩:=g2;have hlt:j < args.length:=by rw [← p1]; exact (List.getElem?_eq_some_iff.1 hd).1
  have hq:args[j]? = some args[j]:=jC hlt;have hnl:=List.any_eq_false.1 (by simpa using hl) _ (jF hq);have hx:RepD w g.S v d:=pure1_rep (hr j v _ g1 hq) (p2 j _ d hq hd) (by simpa using hnl);exact .dat _ _ hx
 obtain ⟨v,g1,rfl,hg⟩:=he;have hb:=hg.inv.below
 have hS':∀ b o,(g1.drop H1 0).S b o→g.S b o∨(w.heap.size≤b∧b < w'.heap.size):=fun b o hs=>by
  have hlt:b < w'.heap.size:=by
   rcases hs with hs|⟨j,_,hjb,_⟩
   ·exact hg.inv.lt b o hs
   ·exact (hg.heap.occ_lt hjb).2.1
  rcases hs with hs|⟨j,_,hjb,_⟩
  ·rcases hg.inv.old b o hs with h|h
   ·exact .inl h
   ·exact .inr ⟨h,hlt⟩
  ·exact .inr ⟨(hg.heap.occ_lt hjb).1,hlt⟩
 have hv:RepV { g with S:=fun b o=>g.S b o∨(w.heap.size≤b∧b < w'.heap.size) } H.length w' v (.dat d):=.dat _ _ ((pure1_lend hg.heap hg.rep hd).mono hS' fun _ _ _=>rfl)
 have he:Ext H.length g w { g with S:=fun b o=>g.S b o∨(w.heap.size≤b∧b < w'.heap.size) } w' :=
  ⟨fun _ _ h=>.inl h,fun b o hs=>hb.cell (p:=⟨b,o,none⟩) (hi.lt b o hs),fun _ _ h=>⟨rfl,h⟩,fun _ _ v n h=>⟨v,n,h,j7 _,fun _=>rfl⟩⟩
 refine ⟨v,_,rfl,he,j7 _,hv,hH.keep he (j7 _) (j7 _) (fun i b h=>hb.block b (hH.occ_lt h).2.1) (fun i b h o hs=>?_) (fun _ _=>rfl),⟨hi.below.trans (hb.mono hi.size),jW hi.size hb.size,fun b o hs=>?_,fun b o hs=>?_⟩,Fr.old hb.size (fun b h=>hb.block b h) (fun i b h _=>⟨i,occ_ghost (g:=g) h (fun _ _=>rfl) (fun _ _=>rfl)⟩) (fun b o h=>h.imp id fun h=>.inl h.1)⟩
 ·rcases hs with hs|⟨hs,_⟩
  ·exact hs
  ·exact absurd (hH.occ_lt h).2.1 y5
 ·rcases hs with hs|⟨hs,_⟩
  ·exact hi.old b o hs
  ·exact .inr (jW hi.size hs)
 ·rcases hs with hs|⟨_,hs⟩
  ·exact jP (hi.lt b o hs) hb.size
  ·exact hs

theorem nil_ok (hcall:CallOK P pf call) {f:FuncId} {ops:List Operand} {args:List PV} {jj e:Nat} {H H':List Blk} {g:Gh} {w:World} {a:Act} {p:PV} {ρ:Operand→PV} (hf:nilCall call f ops (ops.map ρ) jj e H=some (p,H'))
  (hρ:∀ x,RepV g H.length w (a.eval x) (ρ x)) (hH:Ql P g B0 H.length H w) (hi:Inv B0 w0 S0 g w) (hG:GlobRep g w) :
  (∃ fn c, P.funcs[f]? = some fn ∧ fn.body = some c ∧ (fn.name == "runtime.NumGoroutine") = false) ∧ Calls P f (ops.map a.eval).toArray w fun e w' => ∃ v g', e = .returned v ∧ Good P B0 w0 S0 H g w p H' v g' w' := by
 unfold nilCall at hf;split at hf
 case h_2=>cases hf
 rename_i hop;have hg1:=own_mt_ok (P:=P) (S0:=S0) (w0:=w0) hH hi e;obtain ⟨k1,_,k3⟩:=hcall _ _ _ _ _ hf;refine ⟨k1,(k3 B0 w0 S0 _ w (ops.map a.eval).toArray y7 (fun j v q g1 g2=>?_) hg1.heap hg1.inv (hG.ext hg1.ext)).mono fun e' w1 he=>?_⟩
 ·simp only [List.getElem?_toArray,jD,j5] at g1;obtain ⟨x,hx,rfl⟩:=g1;rw [zC] at g2;split at g2
  ·rename_i hj;subst hj;split at g2
   ·simp at g2;subst g2;rw [hop] at hx;simp at hx;subst hx;exact hg1.rep
   ·cases g2
  ·simp only [jD,hx,jN,j9] at g2;subst g2;exact (hρ x).ext hg1.ext hg1.len
 ·obtain ⟨v,g',rfl,hg⟩:=he;exact ⟨v,g',rfl,hg1.ext.trans hg.ext hg1.len,jW hg1.len hg.len,hg.rep,hg.heap,hg.inv,hg1.fr.trans hg.fr⟩

theorem callFunc_run {f : FuncId} {fn : Func} {c : Code} (hf : P.funcs[f]? = some fn) (hb : fn.body = some c) (hn : (fn.name == "runtime.NumGoroutine") = false) (args : Array Value) (w : World) :
  (callFunc f args).run P w=.ok (.enter f args) w:=by
 have hn' : ¬ fn.name = "runtime.NumGoroutine" := by simpa using hn
 simp [callFunc,hf,hb,hn']

theorem sem_wp (hF:Free F) (hcall:CallOK P pf call) {ow:List (Nat × TypeId)} {o:Oper} {st:St} {p:PV} {H':List Blk} {g:Gh} {a:Act} {w:World} {K:Act→World→Prop} {Q:Exit→Act→World→Prop}
  (hs:sem P call ow o (ev st.slots) st.heap=some (p,H')) (hst:StOK P B0 w0 S0 Nb g st a w)
  (hK:∀ v g' w',Good P B0 w0 S0 st.heap g w p H' v g' w'→K (a.put o.dst v) w'):o.wpIn F m P a w K Q:=by
 have hρ:∀ x,RepV g st.heap.length w (a.eval x) (ev st.slots x):=fun x=>hst.rep.ev x
 refine ⟨fun f _=>hF.fn f,?_⟩;have hnd:∀ c,o.op≠.defer c:=fun c e=>by rw [sem] at hs; simp [e] at hs
 rw [Oper.semAt_eq _ _ _ hnd];by_cases hc:∃ f args ts,o.op=.call { callee:=.value f,args,argTypes:=ts }
 ·obtain ⟨f,args,ts,ho⟩:=hc
  -- the callee and what it is called with
  have keyG : ∀ (call2 : CallF), (∀ fi A p' H2, call2 fi A st.heap = some (p', H2) → (∃ fn c, P.funcs[fi]? = some fn ∧ fn.body = some c ∧ (fn.name == "runtime.NumGoroutine") = false) ∧ ∀ vals : Array Value, vals.size = A.length → (∀ (j : Nat) v q, vals[j]? = some v → A[j]? = some q → RepV g st.heap.length w v q) → Calls P fi vals w fun e w' => ∃ v g', e = .returned v ∧ Good P B0 w0 S0 st.heap g w p' H2 v g' w') →
    ∀ (fi:FuncId) (cap:List PV) (capv:Array Value),a.eval f=.func (.func fi) #[] capv→capv.size=cap.length →
    (∀ (j:Nat) v q,capv[j]? = some v→cap[j]? = some q→RepV g st.heap.length w v q)→call2 fi (args.toList.map (ev st.slots)++cap) st.heap=some (p,H') →
    o.uponIn F m P a K Q ((execOp a.eval o).run P w):=fun call2 hc2 fi cap capv hf hl hcr hcl=>by
   obtain ⟨⟨fn,c,h1,h2,h3⟩,h4⟩:=hc2 _ _ _ _ hcl
   have hrun:(execOp a.eval o).run P w=.ok (.enter fi (args.map a.eval++capv)) w:=by
    simp [execOp,ho,resolve,hf,Deferred.ofValue,invoke,callFunc_run h1 h2 h3]
   rw [hrun];refine ⟨fun hd=>(by rw [hF.depth] at hd; cases hd),hF.calls ((h4 _ (by simp [hl]) (fun j v q g1 g2=>?_)).mono fun e w' he=>?_)⟩
   ·rw [Array.getElem?_append] at g1;rw [jT] at g2;simp only [Array.size_map,jY,Array.length_toList] at g1 g2;split at g1
    ·rename_i hj;rw [if_pos hj] at g2;simp only [zI,j5] at g1;obtain ⟨x,hx,rfl⟩:=g1;simp only [jD,zF,hx,jN,j9] at g2;subst g2; exact hρ x
    ·rename_i hj;rw [if_neg hj] at g2;exact hcr _ v q g1 g2
   ·obtain ⟨v,g',rfl,hg⟩:=he;exact hK v g' w' hg
  have hfv:=hρ f
  have plainG : ∀ (call2 : CallF), (∀ fi A p' H2, call2 fi A st.heap = some (p', H2) → (∃ fn c, P.funcs[fi]? = some fn ∧ fn.body = some c ∧ (fn.name == "runtime.NumGoroutine") = false) ∧ ∀ vals : Array Value, vals.size = A.length → (∀ (j : Nat) v q, vals[j]? = some v → A[j]? = some q → RepV g st.heap.length w v q) → Calls P fi vals w fun e w' => ∃ v g', e = .returned v ∧ Good P B0 w0 S0 st.heap g w p' H2 v g' w') →
    valCall call2 (ev st.slots f) (args.toList.map (ev st.slots)) st.heap=some (p,H')→o.uponIn F m P a K Q ((execOp a.eval o).run P w):=fun call2 hc2 hs=>by
   unfold valCall at hs;split at hs
   ·rename_i fi first cap hx
    rw [hx] at hfv;have hd:=hfv.datInv;have hv:=hfv.toVal (u:=.func (.func fi) first cap) rfl;rw [hv] at hd;have hraw:isRaw (.func (.func fi) first cap)=true:=by cases hd; assumption
    simp only [isRaw,jE,Array.isEmpty_iff] at hraw;obtain ⟨rfl,rfl⟩:=hraw;exact keyG call2 hc2 fi [] #[] hv rfl (fun j v q h=>by simp at h) (by simpa using hs)
   ·rename_i fi cap hx;rw [hx] at hfv;generalize hv:a.eval f=vf at hfv;cases hfv with
    | fn f vs cs h1 h2=>exact keyG call2 hc2 _ cap vs hv h1 h2 hs
   ·cases hs
  have hcG : ∀ fi A p' H2, call fi A st.heap = some (p', H2) → (∃ fn c, P.funcs[fi]? = some fn ∧ fn.body = some c ∧ (fn.name == "runtime.NumGoroutine") = false) ∧ ∀ vals : Array Value, vals.size = A.length → (∀ (j : Nat) v q, vals[j]? = some v → A[j]? = some q → RepV g st.heap.length w v q) → Calls P fi vals w fun e w' => ∃ v g', e = .returned v ∧ Good P B0 w0 S0 st.heap g w p' H2 v g' w' := fun fi A p' H2 h => by
   obtain ⟨k1,_,k3⟩:=hcall _ _ _ _ _ h;exact ⟨k1,fun vals hn hr=>k3 B0 w0 S0 g w vals hn hr hst.heap hst.inv hst.rep.glob⟩
  have plain:valCall call (ev st.slots f) (args.toList.map (ev st.slots)) st.heap=some (p,H')→o.uponIn F m P a K Q ((execOp a.eval o).run P w):=plainG call hcG
  have winf:∀ b d,winCall call (ev st.slots f) (args.toList.map (ev st.slots)) b d st.heap=some (p,H')→o.uponIn F m P a K Q ((execOp a.eval o).run P w):=fun b d hs=>plainG (winF call b d) (fun fi A p' H2 h=>by
   unfold winF at h;by_cases hlb:st.heap.length≤b
   ·rw [if_pos hlb] at h;refine ⟨?_,fun vals hn hr=>(new_ok hcall h hn hr hst.heap hst.inv hst.rep.glob).2⟩;unfold newRun at h;split at h
    case isFalse=>cases h
    split at h
    case h_2=>cases h
    rename_i hcl;exact (hcall _ _ _ _ _ hcl).1
   ·rw [if_neg hlb] at h;refine ⟨?_,fun vals hn hr=>(win_ok hcall h hn hr hst.heap hst.inv hst.rep.glob).2⟩;unfold winRun at h;split at h
    case isFalse=>cases h
    split at h
    case h_2=>cases h
    rename_i hfr;unfold frameRun at hfr;split at hfr
    case isFalse=>cases hfr
    split at hfr
    case h_2=>cases hfr
    rename_i hcl;exact (hcall _ _ _ _ _ hcl).1) hs
  have key:∀ (fi:FuncId) (cap:List PV) (capv:Array Value),a.eval f=.func (.func fi) #[] capv→capv.size=cap.length →
    (∀ (j:Nat) v q,capv[j]? = some v→cap[j]? = some q→RepV g st.heap.length w v q)→call fi (args.toList.map (ev st.slots)++cap) st.heap=some (p,H') →
    o.uponIn F m P a K Q ((execOp a.eval o).run P w):=keyG call hcG
  have frame:∀ d,frameCall call (ev st.slots f) (args.toList.map (ev st.slots)) d st.heap=some (p,H')→o.uponIn F m P a K Q ((execOp a.eval o).run P w):=fun d hs=>by
   unfold frameCall at hs;split at hs
   case h_2=>cases hs
   rename_i fi first cap hx
   rw [hx] at hfv;have hd:=hfv.datInv;have hv:=hfv.toVal (u:=.func (.func fi) first cap) rfl;rw [hv] at hd;have hraw:isRaw (.func (.func fi) first cap)=true:=by cases hd; assumption
   simp only [isRaw,jE,Array.isEmpty_iff] at hraw;obtain ⟨rfl,rfl⟩:=hraw
   have hboth:=frame_ok hcall (vals:=args.map a.eval) hs y7 (fun j v q g1 g2=>by
    simp only [zI,j5] at g1;obtain ⟨x,hx,rfl⟩:=g1;simp only [jD,zF,hx,jN,j9] at g2;subst g2; exact hρ x) hst.heap hst.inv hst.rep.glob
   obtain ⟨⟨fn,c,h1,h2,h3⟩,h4⟩:=hboth
   have hrun:(execOp a.eval o).run P w=.ok (.enter fi (args.map a.eval)) w:=by
    simp [execOp,ho,resolve,hv,Deferred.ofValue,invoke,callFunc_run h1 h2 h3]
   rw [hrun];refine ⟨fun hd=>(by rw [hF.depth] at hd; cases hd),hF.calls (h4.mono fun e w' he=>?_)⟩;obtain ⟨v,g',rfl,hg⟩:=he;exact hK v g' w' hg
  rw [sem] at hs;simp only [ho] at hs;split at hs
  case h_2 =>
   rename_i jj ee ow';by_cases h13:13000≤jj
   ·rw [if_pos h13] at hs;unfold readCall at hs;split at hs
    case h_2=>cases hs
    rename_i q R hf
    have hR:R=st.heap∧q=p∧H'=st.heap:=by
     split at hs
     ·rename_i he; cases hs; exact ⟨sameH_eq he,rfl,rfl⟩
     ·split at hs
      ·rename_i he; cases hs; exact ⟨he,rfl,rfl⟩
      ·cases hs
    obtain ⟨e1,e2,e3⟩:=hR;exact frame _ (by rw [hf,e1,e2,e3])
   rw [if_neg h13] at hs;by_cases h12:12000≤jj
   ·rw [if_pos h12] at hs;by_cases h125:12500≤jj
    ·rw [if_pos h125] at hs; exact winf _ _ hs
    ·rw [if_neg h125] at hs; exact frame _ hs
   rw [if_neg h12] at hs;by_cases h70:jj=7000
   ·rw [if_pos h70] at hs;unfold aloneCall at hs;split at hs
    case h_2=>cases hs
    rename_i fi first cap hx
    split at hs
    ·cases hs
    rename_i hl;split at hs
    case h_2=>cases hs
    rename_i ds hps;split at hs
    case h_2=>cases hs
    rename_i p1 H1 hc1;simp only [j5] at hs;obtain ⟨d,hd1,hs⟩:=hs;cases hs;rw [hx] at hfv;have hd:=hfv.datInv;have hv:=hfv.toVal (u:=.func (.func fi) first cap) rfl;rw [hv] at hd;have hraw:isRaw (.func (.func fi) first cap)=true:=by cases hd; assumption
    simp only [isRaw,jE,Array.isEmpty_iff] at hraw;obtain ⟨rfl,rfl⟩:=hraw
    have hboth:=alone_ok hcall (vals:=args.map a.eval) hl hps hc1 hd1 y7 (fun j v q g1 g2=>by
     simp only [zI,j5] at g1;obtain ⟨x,hx,rfl⟩:=g1;simp only [jD,zF,hx,jN,j9] at g2;subst g2; exact hρ x) hst.heap hst.inv hst.rep.glob
    obtain ⟨⟨fn,c,h1,h2,h3⟩,h4⟩:=hboth
    have hrun:(execOp a.eval o).run P w=.ok (.enter fi (args.map a.eval)) w:=by
     simp [execOp,ho,resolve,hv,Deferred.ofValue,invoke,callFunc_run h1 h2 h3]
    rw [hrun];refine ⟨fun hd=>(by rw [hF.depth] at hd; cases hd),hF.calls (h4.mono fun e w' he=>?_)⟩;obtain ⟨v,g',rfl,hg⟩:=he;exact hK v g' w' hg
   rw [if_neg h70] at hs;by_cases h60:6000≤jj
   ·rw [if_pos h60] at hs;unfold calmCall at hs;split at hs
    ·rename_i v' H1 h1;split at hs
     ·cases hs;exact plain h1
     ·cases hs
    ·cases hs
   rw [if_neg h60] at hs;split at hs
   case h_2=>cases hs
   rename_i fi first cap hx
   rw [hx] at hfv;have hd:=hfv.datInv;have hv:=hfv.toVal (u:=.func (.func fi) first cap) rfl;rw [hv] at hd;have hraw:isRaw (.func (.func fi) first cap)=true:=by cases hd; assumption
   simp only [isRaw,jE,Array.isEmpty_iff] at hraw;obtain ⟨rfl,rfl⟩:=hraw
   have hboth : (∃ fn c, P.funcs[fi]? = some fn ∧ fn.body = some c ∧ (fn.name == "runtime.NumGoroutine") = false) ∧ Calls P fi (args.map a.eval) w fun e w' => ∃ v g', e = .returned v ∧ Good P B0 w0 S0 st.heap g w p H' v g' w' := by
    split at hs
    ·unfold giveCall at hs;split at hs
     ·rename_i p1 H1 h1;simp only [j5] at hs;obtain ⟨⟨d,H2⟩,hc1,hs⟩:=hs;cases hs
      obtain ⟨k1,k2⟩:=fresh_ok hcall (w:=w) (vals:=args.map a.eval) h1 y7 (fun j v q g1 g2=>by
       simp only [zI,j5] at g1;obtain ⟨x,hx,rfl⟩:=g1;simp only [jD,zF,hx,jN,j9] at g2;subst g2; exact hρ x) hst.heap hst.inv hst.rep.glob
      refine ⟨k1,k2.mono fun e w' he=>?_⟩;obtain ⟨v,g1,rfl,hg⟩:=he
      obtain ⟨g2,l2,e2,h2,i2,f2,l3,r2⟩:=consume_ok [p1] [v] g1 H1 [d] H2 hg.heap hg.inv (fun j u c hv hc=>by
       cases j with
       | zero=>simp at hv hc; subst hv hc; exact hg.rep
       | succ j=>simp at hv) (by simp [consumeL,hc1])
      exact ⟨v,g2,rfl,hg.ext.trans e2 hg.len,by rw [l2]; exact hg.len,.dat _ _ (r2 0 v d rfl rfl),by rw [l2]; exact h2,i2,hg.fr.trans f2⟩
     ·cases hs
    split at hs
    ·have:=nil_ok hcall (w:=w) (a:=a) (args:=[]) hs hρ hst.heap hst.inv hst.rep.glob;have e:(args.toList.map a.eval).toArray=args.map a.eval:=by apply Array.ext'; simp
     rw [e] at this;exact this
    ·exact fresh_ok hcall (w:=w) (vals:=args.map a.eval) hs y7 (fun j v q g1 g2=>by
      simp only [zI,j5] at g1;obtain ⟨x,hx,rfl⟩:=g1;simp only [jD,zF,hx,jN,j9] at g2;subst g2; exact hρ x) hst.heap hst.inv hst.rep.glob
   obtain ⟨⟨fn,c,h1,h2,h3⟩,h4⟩:=hboth
   have hrun:(execOp a.eval o).run P w=.ok (.enter fi (args.map a.eval)) w:=by
    simp [execOp,ho,resolve,hv,Deferred.ofValue,invoke,callFunc_run h1 h2 h3]
   rw [hrun];refine ⟨fun hd=>(by rw [hF.depth] at hd; cases hd),hF.calls (h4.mono fun e w' he=>?_)⟩;obtain ⟨v,g',rfl,hg⟩:=he;exact hK v g' w' hg
  exact plain hs
 ·obtain ⟨v,g',w',hres,hg⟩:=sem_done (a:=a) (fun f args ts e=>hc ⟨f,args,ts,e⟩) hst.heap hst.inv hρ hs;rcases hres with hr|⟨hr,rfl⟩
  ·rw [hr]; exact hK v g' w' hg
  ·rw [hr]; exact hK undef g' w' hg

theorem wanted_rep {g:Gh} {N:Nat} {w:World} {tmps:Array Value} {s:List PV} {ops:Array Oper} {o:Oper} {b:Bool} (hr:RepS g N w tmps s) (hw:wantedA ops s o=some b) :
  Region.wanted o (yielded ops tmps)=b:=by
 unfold wantedA at hw;unfold Region.wanted;split at hw
 ·rename_i hg; simp only [hg]; exact jS hw
 ·rename_i j want hg;simp only [hg];split at hw
  ·cases hw
  ·rename_i d hd;have hv:=hr.2 d;split at hw
   ·rename_i b' hs;have hlt:d < tmps.size:=by rw [hr.1]; exact (List.getElem?_eq_some_iff.1 hs).1
    rw [jB,hs,Option.getD_some] at hv;have:=hv.toVal (u:=.bool b') rfl;rw [jH,jA hlt,Option.getD_some] at this
    have hy:yielded ops tmps j=some b':=by
     unfold yielded; rw [hd]; simp [jA hlt,this]
    rw [hy];have:=jS hw;rw [← this]; cases b' <;> cases want <;> rfl
   ·rename_i hs;have hlt:d < tmps.size:=by rw [hr.1]; exact (List.getElem?_eq_some_iff.1 hs).1
    rw [jB,hs,Option.getD_some] at hv;rw [jH,jA hlt,Option.getD_some] at hv
    have hy:yielded ops tmps j=none:=by
     unfold yielded; rw [hd]; simp only [zU,jA hlt];generalize tmps[d]=u at hv;cases hv; rfl
    rw [hy];have:=jS hw;rw [← this]; rfl
   ·cases hw

theorem undef_rep {g:Gh} {N:Nat} {w:World}:RepV g N w undef (.tup []):=.tup _ _ rfl (fun j v c h=>by simp at h)

theorem StOK.put {g g':Gh} {st:St} {a:Act} {w w':World} {p:PV} {H':List Blk} {v:Value} (hst:StOK P B0 w0 S0 Nb g st a w) (hg:Good P B0 w0 S0 st.heap g w p H' v g' w') (d:Option Tmp) :
  StOK P B0 w0 S0 Nb g' ⟨putS st.slots d p,H'⟩ (a.put d v) w' :=
 ⟨hg.heap,hg.inv,(hst.rep.ext hg.ext hg.len).put d hg.rep,jW hst.base hg.len⟩

theorem put_defers (a:Act) (d:Option Tmp) (v:Value):(a.put d v).defers=a.defers:=by cases d <;> rfl

theorem opsFrom_sound (hF:Free F) (hcall:CallOK P pf call) {r:Nat} {ops:Array Oper} {Q:Exit→Act→World→Prop}:∀ (os:List Oper) (i:Nat) (st st':St) (g:Gh) (a:Act) (w:World),
  opsFrom P call h r ops i os st=some st'→(∀ j,os[j]? = ops[i+j]?)→StOK P B0 w0 S0 Nb g st a w →
  (∀ g' a' w',Ext Nb g w g' w'→Fr g st.heap w g' st'.heap w'→StOK P B0 w0 S0 Nb g' st' a' w'→a'.defers=a.defers→Q .normal a' w')→wpOpsIn F m P ops Q (List.range' i os.length) a w
 | [],i,st,st',g,a,w,hs,_,hst,hQ=>by
  cases hs;exact hQ g a w (Ext.refl _ _ _) (Fr.refl _ _ _) hst rfl
 | o::os,i,st,st',g,a,w,hs,hl,hst,hQ=>by
  have h0:ops[i]? = some o:=by simpa using (hl 0).symm
  have hl':∀ j,os[j]? = ops[i+1+j]?:=fun j=>by have:=hl (j+1); rw [show i+1+j=i+(j+1) by omega]; simpa using this
  simp only [zE,List.range'_succ,wpOpsIn,h0];unfold opsFrom at hs;split at hs
  ·rename_i st1 hst1;unfold opStep at hst1;split at hst1
   ·rename_i hw;rw [wanted_rep hst.rep hw,if_pos rfl];split at hst1
    ·rename_i v H hsem;cases hst1;refine sem_wp hF hcall hsem hst fun u g' w' hg=>?_
     refine opsFrom_sound hF hcall os (i+1) _ _ g' _ w' hs hl' (hst.put hg o.dst) fun g2 a2 w2 he hf hst2 hd=>?_
     exact hQ g2 a2 w2 ((hg.ext.less hst.base).trans he (j7 _)) (hg.fr.trans hf) hst2 (hd.trans (put_defers _ _ _))
    ·cases hst1
   ·rename_i hw;rw [wanted_rep hst.rep hw];simp only [j6,if_false];cases hst1;refine ⟨fun f _=>hF.fn f,?_⟩;refine opsFrom_sound hF hcall os (i+1) _ _ g _ w hs hl' ⟨hst.heap,hst.inv,hst.rep.put o.dst undef_rep,hst.base⟩ fun g2 a2 w2 he hf hst2 hd=>?_
    exact hQ g2 a2 w2 he hf hst2 (hd.trans (put_defers _ _ _))
   ·cases hst1
  ·cases hs

end
end Go.Pm
